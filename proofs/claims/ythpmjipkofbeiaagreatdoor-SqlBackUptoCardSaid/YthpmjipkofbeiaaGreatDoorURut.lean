import Derived.Test.YthpmjipkofbeiaaGreatDoorUSWow
import Derived.Test.YthpmjipkofbeiaaGreatDoorVst
import Derived.Test.YthpmjipkofbeiaaGreatDoorURlv
set_option linter.all false
namespace Go.Proofs.Tryz
open Go.Ab
set_option maxRecDepth 100000
set_option maxHeartbeats 8000000
theorem aMb (a b c:Tm) (ha:WrK a) (hb:WrK b) (hc:WrK c):Cf Es 23 [(cD 26 [a,b,c]).a] [] (.d (.str (wr (cD 26 [a,b,c])))) []:=by
 refine cI bI (fn:=Tryz.f23) rfl ?_
 rw [show wr (cD 26 [a,b,c])=wCase++32::(wWhen++32::(wr a++32::(wThen++32::(wr b++32::(wElse++32::(wr c++32::wEnd)))))) from by unfold cD; rw [wr,qD,qD,qD,qD]; rfl]
 have ho:=jL (o:=26) (by decide)
 obtain ⟨pa,la⟩:=ha
 obtain ⟨pb,lb⟩:=hb
 obtain ⟨pc,lc⟩:=hc
 generalize wr a=A at *
 generalize wr b=B at *
 generalize wr c=C at *
 have c1:=a.clen
 have k1:=a.ctake
 have c2:=b.clen
 have k2:=b.ctake
 have c3:=c.clen
 have k3:=c.ctake
 have zF:(10+A.length≤9223372036854775807)∧(A.length≤9223372036854775791)∧(A.length+6+1+1+1+1+1+1+1+1+1+1+B.length≤9223372036854775807)∧(A.length+(B.length+1+1+1+1+1+1)≤9223372036854775791)∧(A.length+(B.length+6+1+1+1+1+1+1)+1+1+1+1+1+1+1+1+1+1+C.length≤9223372036854775807)∧(A.length+(B.length+(C.length+1+1+1+1+1+1)+1+1+1+1+1+1)≤9223372036854775793)∧True:=⟨by omega,by omega,by omega,by omega,by omega,by omega,trivial⟩ --Z
 simp [cD,Tm.a,Tm.c,dC]
 (repeat refine ⟨.of (by kernel_rfl),?_⟩)
 refine aP ho ?_
 simp [c1,k1]<;>(repeat' first|contradiction|exact .ok|apply And.intro|intro _|(apply gc<;>simp+contextual[c1,k1,c2,k2,c3,k3]))
 refine aA pa (by simp [Tm.a]) ?_
 simp [zF,c2,k2]
 refine aA pb (by simp [Tm.a]) ?_
 simp [zF,c3,k3]
 refine aA pc (by simp [Tm.a]) ?_
 simp [zF]<;>(repeat' first|contradiction|exact .ok|apply And.intro|intro _|(apply gc<;>simp+contextual[zF]))
 all_goals (first | rfl | omega | skip)
theorem aMc (ks:List Tm) (hk:∀ x∈ks,WrK x) (hl:ks.length≤1000000000000) (hj:(eH (ks.map wr)).length≤1099511627776):Cf Es 23 [(cD 27 ks).a] [] (.d (.str (wr (cD 27 ks)))) []:=by
 refine cI bI (fn:=Tryz.f23) rfl ?_
 rw [show wr (cD 27 ks)=wCoalesce++40::(eH (ks.map wr)++[41]) from by unfold cD; rw [wr,pD]; rfl]
 have ho:=jL (o:=27) (by decide)
 have hjo:=CI 23 wr ks hl (by omega) fun x hx=>(hk x hx).1
 generalize eH (ks.map wr)=A at *
 have g1:∀ k:Nat,k≤1000→k+A.length≤9223372036854775807:=fun k h=>by omega
 have g2:∀ k:Nat,9223372036854770000≤k→A.length≤k:=fun k h=>by omega
 have g3:∀ k j:Nat,k≤1000→j≤1000→k+A.length+j≤9223372036854775807:=fun k j h1 h2=>by omega
 have g4:∀ k j:Nat,k≤1000→j≤1000→k+(A.length+j)≤9223372036854775807:=fun k j h1 h2=>by omega
 simp [cD,Tm.a,Tm.c,aS]
 (repeat refine ⟨.of (by kernel_rfl),?_⟩)
 refine aP ho ?_
 simp<;>(repeat' first|contradiction|exact .ok|apply And.intro|intro _|(apply gc<;>simp+contextual))
 refine aP hjo ?_
 simp [g1,g2]<;>(repeat' first|contradiction|exact .ok|apply And.intro|intro _|(apply gc<;>simp+contextual[g1,g2,g3,g4]))
 all_goals (first | rfl | omega | skip)
theorem aMd (a:Tm) (ks:List Tm) (ha:WrK a) (hk:∀ x∈ks,WrK x) (hl:ks.length≤1000000000000) (hj:(eH (ks.map wr)).length≤1099511627776):Cf Es 23 [(cD 28 (a::ks)).a] [] (.d (.str (wr (cD 28 (a::ks))))) []:=by
 refine cI bI (fn:=Tryz.f23) rfl ?_
 rw [show wr (cD 28 (a::ks))=yT 4 (tA a) (wr a)++32::(wIn++32::(40::(eH (ks.map wr)++[41]))) from by unfold cD; rw [wr,pD]; rfl]
 have ho:=jL (o:=28) (by decide)
 obtain ⟨pa,la⟩:=ha.pl 4 (by decide)
 have hjo:=CI 23 wr ks hl (by omega) fun x hx=>(hk x hx).1
 generalize yT 4 (tA a) (wr a)=A at *
 generalize eH (ks.map wr)=B at *
 have c1:=a.clen
 have k1:=a.ctake
 have ht:List.take ks.length (List.map Tm.c ks)=List.map Tm.c ks:=List.take_of_length_le (by simp)
 have h1:(1:Int)≤(ks.length:Int)+1:=by omega
 have zF:(A.length≤9223372036854775802)∧(A.length+5+B.length≤9223372036854775807)∧(A.length+(B.length+1+1+1+1+1)≤9223372036854775806)∧True:=⟨by omega,by omega,by omega,trivial⟩ --Z
 simp [cD,Tm.a,Tm.c,aS]
 (repeat refine ⟨.of (by kernel_rfl),?_⟩)
 refine aP ho ?_
 simp [c1,k1]<;>(repeat' first|contradiction|exact .ok|apply And.intro|intro _|(apply gc<;>simp+contextual[c1,k1]))
 refine aA pa (by simp [Tm.a]) ?_
 simp [zF,ht,h1,Tm.clen]<;>(repeat' first|contradiction|exact .ok|apply And.intro|intro _|(apply gc<;>simp+contextual[zF,ht,h1,Tm.clen]))
 refine aP hjo ?_
 simp [zF]<;>(repeat' first|contradiction|exact .ok|apply And.intro|intro _|(apply gc<;>simp+contextual[zF,ht,h1,Tm.clen]))
 all_goals (first | rfl | omega | skip)
theorem aMe:Cf Es 23 [(Tm.mk 41 0 1 [] [] []).a] [] (.d (.str (wr (.mk 41 0 1 [] [] [])))) []:=by
 refine cI bI (fn:=Tryz.f23) rfl ?_
 have ho:=jL (o:=41) (by decide)
 rw [show wr (.mk 41 0 1 [] [] [])=wCount++[40,42,41] from rfl]
 simp [Tm.a,Tm.c,dC]
 (repeat refine ⟨.of (by kernel_rfl),?_⟩)
 refine aP ho ?_
 simp<;>(repeat' first|contradiction|exact .ok|apply And.intro|intro _|(apply gc<;>simp+contextual))
 all_goals (first | rfl | omega | skip)
theorem aJw {n:Int} (h:2≤n∧n≤6):aggC[n.toNat]?=some (.str (LQ n))∧aggC.length=7∧(LQ n).length≤20:=by
 have:n=2∨n=3∨n=4∨n=5∨n=6:=by omega
 rcases this with rfl | rfl | rfl | rfl | rfl <;> exact ⟨rfl,rfl,by decide⟩
theorem aNJ {n:Int} (hn:2≤n∧n≤6) (a:Tm) (ha:WrK a):Cf Es 23 [(Tm.mk 41 0 n [] [] [a]).a] [] (.d (.str (wr (.mk 41 0 n [] [] [a])))) []:=by
 refine cI bI (fn:=Tryz.f23) rfl ?_
 have ho:=jL (o:=41) (by decide)
 rw [show wr (.mk 41 0 n [] [] [a])=LQ n++(wr a++[41]) from by
  rw [wr,qD,qD]
  show (if n=1 then _ else _)=_
  rw [if_neg (by omega)]; rfl]
 obtain ⟨pa,la⟩:=ha
 obtain ⟨q1,q2,q3⟩:=aJw hn
 have hn1:¬ n=1:=by omega
 have hn0:0≤n:=by omega
 have hn7:n<7:=by omega
 have hnt:n.toNat≤7:=by omega
 have hnt2:n.toNat<7:=by omega
 obtain ⟨rest,hd⟩:∃ rest,aggC.drop n.toNat=.str (LQ n)::rest:=by
  obtain ⟨h,e⟩:=List.getElem?_eq_some_iff.1 q1
  exact ⟨_,by rw [List.drop_eq_getElem_cons h,e]⟩
 generalize wr a=A at *
 generalize LQ n=G at *
 have hn8:n≤7:=by omega
 have c1:=a.clen
 have k1:=a.ctake
 have zF:(G.length+A.length≤9223372036854775807)∧(G.length+A.length≤9223372036854775806)∧True:=⟨by omega,by omega,trivial⟩ --Z
 simp [Tm.a,Tm.c,dC]
 (repeat refine ⟨.of (by kernel_rfl),?_⟩)
 refine aP ho ?_
 simp [c1,k1,hn1,hn0,hn7,hnt,q2,hd]<;>(repeat' first|contradiction|exact .ok|apply And.intro|intro _|(apply gc<;>simp+contextual[c1,k1,hn1,hn0,hn7,hn8,hnt,hnt2,q1,q2,hd]))
 refine aA pa (by simp [Tm.a]) ?_
 simp [zF]<;>(repeat' first|contradiction|exact .ok|apply And.intro|intro _|(apply gc<;>simp+contextual[zF]))
 all_goals (first | rfl | omega | skip)
theorem aMf {y:Int} (hy:1≤y∧y≤3):Cf Es 23 [(Tm.mk 1 y 0 [] [] []).a] [] (.d (.str (wr (.mk 1 y 0 [] [] [])))) []:=by
 refine cI bI (fn:=Tryz.f23) rfl ?_
 have ho:=jL (o:=1) (by decide)
 rw [show wr (.mk 1 y 0 [] [] [])=wNull++32::TR y from rfl]
 have:y=1∨y=2∨y=3:=by omega
 rcases this with rfl | rfl | rfl
 all_goals
  simp [Tm.a,Tm.c,dC]
  (repeat refine ⟨.of (by kernel_rfl),?_⟩)
  refine aP ho ?_
  simp [aHT,typL]<;>(repeat' first|contradiction|exact .ok|apply And.intro|intro _|(apply gc<;>simp+contextual[aHT,typL]))
 all_goals (first | rfl | omega | skip)
theorem aNK {n:Int} (h0:-1000000000000≤n) (h1:n≤1000000000000):Cf Es 23 [(Tm.mk 2 0 n [] [] []).a] [] (.d (.str (wr (.mk 2 0 n [] [] [])))) []:=by
 refine cI bI (fn:=Tryz.f23) rfl ?_
 have ho:=jL (o:=2) (by decide)
 have hf:=upw (wB n (by omega) (by omega))
 rw [show wr (.mk 2 0 n [] [] [])=Lib.itoa n from rfl]
 generalize Lib.itoa n=A at *
 simp [Tm.a,Tm.c,dC]
 (repeat refine ⟨.of (by kernel_rfl),?_⟩)
 refine aP ho ?_
 simp<;>(repeat' first|contradiction|exact .ok|apply And.intro|intro _|(apply gc<;>simp+contextual))
 refine aP hf ?_
 simp
 all_goals exact gz
theorem aHe {n:Int} (h:n=0∨n=1):Cf Es 23 [(Tm.mk 3 0 n [] [] []).a] [] (.d (.str (wr (.mk 3 0 n [] [] [])))) []:=by
 refine cI bI (fn:=Tryz.f23) rfl ?_
 have ho:=jL (o:=3) (by decide)
 have hf:=upw (BG (n==1))
 rw [show wr (.mk 3 0 n [] [] [])=if n=1 then tru else fls from rfl]
 rcases h with rfl | rfl
 all_goals
  simp at hf
  simp [Tm.a,Tm.c,dC]
  (repeat refine ⟨.of (by kernel_rfl),?_⟩)
  refine aP ho ?_
  simp<;>(repeat' first|contradiction|exact .ok|apply And.intro|intro _|(apply gc<;>simp+contextual))
  refine aP hf ?_
  simp
  all_goals exact gz
theorem aMg {t:List UInt8} (hl:t.length≤1099511627776):Cf Es 23 [(Tm.mk 4 0 0 t [] []).a] [] (.d (.str (wr (.mk 4 0 0 t [] [])))) []:=by
 refine cI bI (fn:=Tryz.f23) rfl ?_
 have ho:=jL (o:=4) (by decide)
 rw [show wr (.mk 4 0 0 t [] [])=39::(t++[39]) from rfl]
 have g1:∀ k:Nat,k≤1000→k+t.length≤9223372036854775807:=fun k h=>by omega
 have g2:∀ k:Nat,9223372036854770000≤k→t.length≤k:=fun k h=>by omega
 have g3:∀ k j:Nat,k≤1000→j≤1000→k+t.length+j≤9223372036854775807:=fun k j h1 h2=>by omega
 simp [Tm.a,Tm.c,dC]
 (repeat refine ⟨.of (by kernel_rfl),?_⟩)
 refine aP ho ?_
 simp [g1,g2]<;>(repeat' first|contradiction|exact .ok|apply And.intro|intro _|(apply gc<;>simp+contextual[g1,g2,g3]))
theorem aHf {t q:List UInt8} (hl:t.length≤1099511627776) (hq:q.length≤1099511627776):Cf Es 23 [(Tm.mk 40 0 0 t q []).a] [] (.d (.str (wr (.mk 40 0 0 t q [])))) []:=by
 refine cI bI (fn:=Tryz.f23) rfl ?_
 have ho:=jL (o:=40) (by decide)
 rw [show wr (.mk 40 0 0 t q [])=if q=[] then t else q++46::t from rfl]
 have g1:∀ k:Nat,9223372036854770000≤k→q.length≤k:=fun k h=>by omega
 have g2:∀ j:Nat,j≤1000→q.length+j+t.length≤9223372036854775807:=fun j h1=>by omega
 simp [Tm.a,Tm.c,dC]
 (repeat refine ⟨.of (by kernel_rfl),?_⟩)
 refine aP ho ?_
 by_cases h0:q=[]
 ·subst h0
  simp
  all_goals exact gz
 ·simp [h0,g1,g2]<;>(repeat' first|contradiction|exact .ok|apply And.intro|intro _|(apply gc<;>simp+contextual[h0,g1,g2]))
  all_goals (first | rfl | omega | skip)
theorem aHg {o:Int} {z:List UInt8×Nat×Nat×Nat} (h:sgB o=some z):jY o=true:=by
 cases hs:jY o with
 | true=>rfl
 | false=>rw [WS hs] at h; cases h
theorem KO {ws:List (List UInt8)}:∀ {l:List Tm},mD ws l=true→∀ x∈l,rgT ws x=true
 | e::es,h,x,hx=>by
   rw [mD,Bool.and_eq_true] at h
   rcases List.mem_cons.1 hx with rfl | hx
   ·exact h.1
   ·exact KO h.2 x hx
theorem aHh {ws:List (List UInt8)} {x:Tm} (h:rgT ws x=true):mD ws x.kids=true:=by
 obtain ⟨o,y,n,t,q,ks⟩:=x
 rw [rgT,Bool.and_eq_true] at h
 exact h.2
theorem WV (x:Tm):cH x.kids+60≤x.wgt:=by
 obtain ⟨o,y,n,t,q,ks⟩:=x
 rw [Tm.wgt,Tm.kids]
 omega
theorem aCf:∀ l:List Tm,60*l.length≤cH l
 | []=>by simp [cH]
 | x::l=>by
   have h1:=aCf l
   have h2:=WV x
   rw [cH,List.length_cons]
   omega
theorem RE {l:List Tm} (h:mD jZ l=true) (hw:cH l≤1099511627776):l.length≤1000000000000∧(eH (l.map wr)).length≤1099511627776:=by
 have h1:=FX l jZ h
 have h2:=nH (qD l)
 have h3:(qD l).length=l.length:=by rw [pD,List.length_map]
 have h4:=aCf l
 rw [← pD]
 omega
theorem aNL:∀ (m:Nat) (x:Tm),SizeOf.sizeOf x<m→rgT jZ x=true→x.wgt≤1099511627776→WrK x
 | 0,_,h,_,_=>absurd h (by omega)
 | m+1,x,hm,hr,hw=>by
   have hlen:=QW x jZ hr
   refine ⟨?_,by omega⟩
   have hkw:=WV x
   have hkr:=aHh hr
   have hk:∀ k∈x.kids,WrK k:=fun k hk=>aNL m k (by have:=Tm.kid_lt hk; omega) (KO hkr k hk) (by have:=yQ hk; omega)
   cases VM x hr with
   | chn hq hi ha hb=>exact aKe (aHg (aHc hq hi).1) _ _ (hk _ (by simp [cD,Tm.kids])) (hk _ (by simp [cD,Tm.kids]))
   | cmp hi ha hb=>exact aKe (aHg (aHd hi).1) _ _ (hk _ (by simp [cD,Tm.kids])) (hk _ (by simp [cD,Tm.kids]))
   | no ha=>exact aNG _ (hk _ (by simp [cD,Tm.kids]))
   | isNull ha=>exact aGW _ (hk _ (by simp [cD,Tm.kids]))
   | isTrue ha=>exact aGX _ (hk _ (by simp [cD,Tm.kids]))
   | isIn ha hks hn =>
     simp only [cD,Tm.kids] at hkr hkw hk hw
     rw [mD,Bool.and_eq_true] at hkr
     rw [cH] at hkw
     have hj:=RE hkr.2 (by omega)
     exact aMd _ _ (hk _ (by simp)) (fun x hx=>hk x (by simp [hx])) hj.1 hj.2
   | neg ha=>exact aNI _ (hk _ (by simp [cD,Tm.kids]))
   | len ha=>exact aNH _ (hk _ (by simp [cD,Tm.kids]))
   | coal ha hb =>
     simp only [cD,Tm.kids] at hkr hkw hk hw
     have hj:=RE hkr (by omega)
     exact aMc _ hk hj.1 hj.2
   | case ha hb hc=>exact aMb _ _ _ (hk _ (by simp [cD,Tm.kids])) (hk _ (by simp [cD,Tm.kids])) (hk _ (by simp [cD,Tm.kids]))
   | rows=>exact aMe
   | agg hn ha=>exact aNJ hn _ (hk _ (by simp [Tm.kids]))
   | null hy=>exact aMf hy
   | int h0 h1=>exact aNK h0 h1
   | tru=>exact aHe (.inr rfl)
   | fls=>exact aHe (.inl rfl)
   | text ht=>exact aMg (by rw [Tm.wgt] at hw; omega)
   | name ht=>exact aHf (by rw [Tm.wgt] at hw; omega) (by simp)
   | qual ht hq=>exact aHf (by rw [Tm.wgt] at hw; omega) (by rw [Tm.wgt] at hw; omega)
def Sm.form:Sm→Int | .mk f _ _ _ _ _ _ _ _ _ _ _ _=>f
def asB (n:List UInt8):List UInt8:=if n=[] then [] else 32::(rV++32::n)
def RF (i:It):List UInt8:=wr i.t++asB i.n
def KT (t:List UInt8) (Q:List (List UInt8)) (n:List UInt8):List UInt8:=(match Q with
 | []=>t
 | x::_=>40::(x++[41]))++asB n
def onB:List Tm→List UInt8
 | []=>[]
 | c::_=>32::(yG++32::wr c)
def WW (w:List UInt8) (ts:List Tm):List UInt8:=if ts=[] then [] else 32::(w++32::eH (ts.map wr))
def aEg (d s:Bool) (is:List It) (so js:List UInt8) (w g h:List Tm):List UInt8 :=
 wSelect++32::((if d=true then aO++[32] else [])++((if s=true then [42] else [])++(eH (is.map RF)++32::(wFrom++32::(so++(js++(WW wWhere w++(WW (iO++32::RJ) g++WW wHaving h))))))))
def aEh (f:Int) (a:Bool) (fs:List Int) (W:List (List UInt8)):List UInt8 :=
 qL W [] 0++32::(((setW[(f - 2).toNat]?).getD [])++((if a=true then 32::gM else [])++32::(if qL fs 1 1=1 then qL W [] 1 else 40::(qL W [] 1++[41]))))
mutual
def oL:Sm→List UInt8
 | .mk f a d s is ft fq fn js w g h ks=>if f=1 then aEg d s is (KT ft (jR fq) fn) (yS js) w g h else aEh f a (ks.map Sm.form) (jR ks)
def jR:List Sm→List (List UInt8)
 | []=>[]
 | x::xs=>oL x::jR xs
def wjT:Jo→List UInt8
 | .mk k t q n o=>32::(DB k.toNat++32::(wJoin++32::(KT t (jR q) n++onB o)))
def yS:List Jo→List UInt8
 | []=>[]
 | j::js=>wjT j++yS js
end
def LexO (s:List UInt8) (w:List Tz):Prop:=(s=[]∧w=[])∨∃ v,s=32::v∧cL v w∧w ≠ []
theorem LexO.nil:LexO [] []:=.inl ⟨rfl,rfl⟩
theorem LexO.mk {v:List UInt8} {w:List Tz} (h:cL v w) (hw:w ≠ []):LexO (32::v) w:=.inr ⟨v,rfl,h,hw⟩
theorem LexO.aft {s t:List UInt8} {a b:List Tz} (h:cL s a) (ho:LexO t b):cL (s++t) (a++b):=by
 rcases ho with ⟨rfl,rfl⟩ | ⟨v,rfl,h2,hw⟩
 ·simpa using h
 ·exact gH h h2 hw
theorem LexO.app {s t:List UInt8} {a b:List Tz} (h:LexO s a) (ho:LexO t b):LexO (s++t) (a++b):=by
 rcases h with ⟨rfl,rfl⟩ | ⟨v,rfl,h2,hw⟩
 ·simpa using ho
 ·rw [List.cons_append]
  exact .mk (LexO.aft h2 ho) (by simp [hw])
theorem RG {n:List UInt8} (h:nmO jZ n=true):aFY n:=by
 unfold nmO at h
 simp only [Bool.or_eq_true,beq_iff_eq] at h
 exact h
theorem aAJ {n:List UInt8} (h:aFY n):LexO (asB n) (asZ n):=by
 unfold asB asZ
 rcases h with rfl | h
 ·rw [if_pos rfl,if_pos rfl]; exact .nil
 ·have hn:¬ n=[]:=by rintro rfl; revert h; decide
  rw [if_neg hn,if_neg hn]
  exact .mk (dH (x:=rV) (by decide) (qC h) (by simp)) (by simp)
theorem aKf {i:It} (h:rgI jZ i=true):∃ w,WI i w∧cL (RF i) w∧w ≠ []:=by
 unfold rgI at h
 rw [Bool.and_eq_true] at h
 obtain ⟨w,h1,h2,h3⟩:=DJ (VM i.t h.1)
 exact ⟨_,.mk h1 (RG h.2),LexO.aft h2 (aAJ (RG h.2)),by simp [h3]⟩
theorem aHi:∀ (is:List It),is.all (rgI jZ)=true→is ≠ []→∃ i w is' ws,is=i::is'∧WI i w∧WIs is' ws∧cL (eH (is.map RF)) (w++NI ws)∧w++NI ws ≠ []
 | [],_,h=>absurd rfl h
 | [a],h,_=>by
   simp only [List.all_cons,List.all_nil,Bool.and_true] at h
   obtain ⟨w,h1,h2,h3⟩:=aKf h
   exact ⟨a,w,[],[],rfl,h1,.nil,by simpa [eH,NI] using h2,by simp [h3]⟩
 | a::b::r,h,_=>by
   rw [List.all_cons,Bool.and_eq_true] at h
   obtain ⟨w,h1,h2,h3⟩:=aKf h.1
   obtain ⟨i,v,is',ws,e,g1,g2,g3,g4⟩:=aHi (b::r) h.2 (by simp)
   cases e
   exact ⟨a,w,b::r,v::ws,rfl,h1,.cons g1 g2,wE h2 g3 g4,by simp [h3]⟩
theorem aHj (x:List UInt8) (hx:tY x=true) {ts:List Tm} (h:mD jZ ts=true) (hl:ts.length≤1):∃ w,aAo x ts w∧LexO (WW x ts) w:=by
 match ts,hl with
 | [],_=>exact ⟨[],.no,.nil⟩
 | [t],_ =>
   rw [mD,Bool.and_eq_true] at h
   obtain ⟨w,h1,h2,h3⟩:=DJ (VM t h.1)
   refine ⟨_,.yes h1,?_⟩
   unfold WW
   rw [if_neg (by simp)]
   exact .mk (dH hx h2 h3) (by simp)
theorem aJy:∀ {ts:List Tm},mD jZ ts=true→aJu ts:=fun h=>aMa (aAj _ h)
theorem aHk {ts:List Tm} (h:mD jZ ts=true):∃ w,WGr ts w∧LexO (WW (iO++32::RJ) ts) w:=by
 match ts with
 | []=>exact ⟨[],.no,.nil⟩
 | t::r =>
   obtain ⟨ws,h1,h2,h3⟩:=KN (t::r) (aJy h) (by simp)
   cases h1 with
   | cons ht hk =>
     rename_i ra w ws
     rw [JM] at h2 h3
     refine ⟨_,.yes ht hk,?_⟩
     unfold WW
     rw [if_neg (by simp),← pD,List.append_assoc,List.cons_append]
     exact .mk (dH (x:=iO) (by decide) (dH (x:=RJ) (by decide) h2 h3) (by simp)) (by simp)
theorem aHl:cL [42] [sg fV]:=fun rest k _=>mP 42 (by decide) rest k
theorem aMh:∀ k:Fin 7,tY (DB k.1)=true:=by decide
theorem aHm:∀ i:Fin 3,tY ((setW[i.1]?).getD [])=true:=by decide
def aNN (x:Sm):Prop:=∃ w,WSm x w∧cL (oL x) w∧w ≠ []
def aMi (x:Sm):Prop:=∃ w,WSe x w∧cL (oL x) w∧w ≠ []
def aMj (js:List Jo):Prop:=∃ w,WJs js w∧LexO (yS js) w
def aHn:List Sm→Prop
 | []=>True
 | x::xs=>(aNN x∧(x.form=1→aMi x))∧aHn xs
theorem aKg {t:List UInt8} {q:List Sm} {n:List UInt8} (h:(if q.length=0 then bP jZ t&&nmO jZ n else q.length==1&&(t==[]&&(bP jZ n&&yH jZ q)))=true) (hq:aHn q) :
  ∃ w,WSo t q n w∧cL (KT t (jR q) n) w∧w ≠ []:=by
 match q,hq with
 | [],_ =>
   simp only [List.length_nil,if_true,Bool.and_eq_true] at h
   exact ⟨_,.tab h.1 (RG h.2),LexO.aft (qC h.1) (aAJ (RG h.2)),by simp⟩
 | [x],⟨⟨⟨w,h1,h2,h3⟩,_⟩,_⟩ =>
   rw [if_neg (by simp)] at h
   simp only [Bool.and_eq_true,beq_iff_eq] at h
   obtain ⟨_,rfl,hn,_⟩:=h
   refine ⟨_,.sub h1 hn,?_,by simp⟩
   have ha:asZ n=[wd rV,wd n]:=by
    unfold asZ
    rw [if_neg (by rintro rfl; revert hn; decide)]
   have:=LexO.aft (pK h2) (aAJ (.inr hn))
   rw [ha] at this
   rw [jR,jR]
   simpa [KT] using this
 | x::y::r,_=>simp at h
theorem aMk {d s:Bool} {is:List It} {ft:List UInt8} {fq:List Sm} {fn:List UInt8} {js:List Jo} {w g h:List Tm} (hs:(s==(is.length==0))=true) (hi:is.all (rgI jZ)=true)
  (hso:∃ v,WSo ft fq fn v∧cL (KT ft (jR fq) fn) v∧v ≠ []) (hj:aMj js) (hw:mD jZ w=true) (hwl:w.length≤1) (hg:mD jZ g=true) (hh:mD jZ h=true) (hhl:h.length≤1) :
  aMi (.mk 1 false d s is ft fq fn js w g h []):=by
 obtain ⟨vs,s1,s2,s3⟩:=hso
 obtain ⟨vj,j1,j2⟩:=hj
 obtain ⟨vw,w1,w2⟩:=aHj wWhere (by decide) hw hwl
 obtain ⟨vg,g1,g2⟩:=aHk hg
 obtain ⟨vh,h1,h2⟩:=aHj wHaving (by decide) hh hhl
 have tl:cL (KT ft (jR fq) fn++(yS js++(WW wWhere w++(WW (iO++32::RJ) g++WW wHaving h)))) (vs++(vj++(vw++(vg++vh)))):=LexO.aft s2 (j2.app (w2.app (g2.app h2)))
 have tl2:=dH (x:=wFrom) (by decide) tl (by simp [s3])
 obtain ⟨vi,i1,i2,i3⟩:∃ vi,WSt s is vi∧cL ((if s=true then [42] else [])++eH (is.map RF)) vi∧vi ≠ []:=by
  cases is with
  | nil =>
    obtain rfl:s=true:=by simpa using hs
    exact ⟨_,.star,aHl,by simp⟩
  | cons i is =>
    obtain rfl:s=false:=by simpa using hs
    obtain ⟨i',v,is',ws,e,g1,g2,g3,g4⟩:=aHi (i::is) hi (by simp)
    cases e
    exact ⟨_,.items g1 g2,g3,g4⟩
 have tl3:=gH i2 tl2 (by simp)
 have tl4:cL ((if d=true then aO++[32] else [])++((if s=true then [42] else [])++eH (is.map RF)++32::(wFrom++32::(KT ft (jR fq) fn++(yS js++(WW wWhere w++(WW (iO++32::RJ) g++WW wHaving h)))))))
   (VT d aO++(vi++(wd wFrom::(vs++(vj++(vw++(vg++vh))))))):=by
  cases d with
  | true =>
    have:=dH (x:=aO) (by decide) tl3 (by simp)
    simpa [VT] using this
  | false=>simpa [VT] using tl3
 have hwse:=WSe.sel (d:=d) i1 s1 j1 w1 g1 h1
 refine ⟨_,hwse,?_,by simp⟩
 rw [oL,if_pos rfl]
 unfold aEg
 rw [List.append_assoc] at tl4
 exact dH (x:=wSelect) (by decide) tl4 (by simp [i3])
mutual
theorem aKh:∀ x:Sm,rgS jZ x=true→aNN x∧(x.form=1→aMi x)
 | .mk f a d s is ft fq fn js w g h ks,hr=>by
   rw [rgS] at hr
   by_cases hf:f=1
   ·subst hf
    rw [if_pos rfl] at hr
    simp only [Bool.and_eq_true,decide_eq_true_eq,Bool.not_eq_true'] at hr
    obtain ⟨rfl,hk,hs,hwl,hhl,hso,hi,hj,hw,hg,hh⟩:=hr
    obtain rfl:=List.length_eq_zero_iff.1 (by simpa using hk:ks.length=0)
    have hE:=aMk (d:=d) hs hi (aKg hso (RH fq (by
     split at hso
     ·rename_i h0
      rw [List.length_eq_zero_iff.1 h0]; rfl
     ·simp only [Bool.and_eq_true] at hso
      exact hso.2.2.2))) (aHo js hj) hw hwl hg hh hhl
    obtain ⟨v,h1,h2,h3⟩:=hE
    exact ⟨⟨v,.one h1,h2,h3⟩,fun _=>⟨v,h1,h2,h3⟩⟩
   ·rw [if_neg hf] at hr
    split at hr
    ·rename_i hf2
     simp only [Bool.and_eq_true,Bool.not_eq_true',beq_iff_eq] at hr
     obtain ⟨hk,hks,rfl,rfl,his,rfl,hfq,rfl,hjs,hw,hg,hh⟩:=hr
     obtain rfl:=List.length_eq_zero_iff.1 his
     obtain rfl:=List.length_eq_zero_iff.1 hfq
     obtain rfl:=List.length_eq_zero_iff.1 hjs
     obtain rfl:=List.length_eq_zero_iff.1 hw
     obtain rfl:=List.length_eq_zero_iff.1 hg
     obtain rfl:=List.length_eq_zero_iff.1 hh
     have hall:=RH ks hks
     obtain ⟨x,y,rfl⟩:=aLc hk
     obtain ⟨⟨hx,_⟩,⟨hy,hye⟩,_⟩:=hall
     obtain ⟨i,hi,rfl⟩:∃ i:Nat,i<3∧f=2+(i:Int):=⟨(f - 2).toNat,by omega,by omega⟩
     refine ⟨?_,fun e=>absurd e hf⟩
     obtain ⟨wx,x1,x2,x3⟩:=hx
     obtain ⟨wy,y1,y2,y3⟩:∃ wy,WCo y wy∧cL (if y.form=1 then oL y else 40::(oL y++[41])) wy∧wy ≠ []:=by
      by_cases hyf:y.form=1
      ·obtain ⟨wy,y1,y2,y3⟩:=hye hyf
       rw [if_pos hyf]
       exact ⟨wy,.sel y1,y2,y3⟩
      ·obtain ⟨wy,y1,y2,y3⟩:=hy
       rw [if_neg hyf]
       exact ⟨_,.par y1,pK y2,by simp⟩
     have hset:=WSm.set (i:=i) (a:=a) hi x1 y1
     refine ⟨_,hset,?_,by simp [x3]⟩
     rw [oL,if_neg hf,jR,jR,jR]
     unfold aEh
     rw [show (2+(i:Int) - 2).toNat=i from by omega]
     show cL (oL x++32::(((setW[i]?).getD [])++((if a=true then 32::gM else [])++32::(if y.form=1 then oL y else 40::(oL y++[41]))))) _
     cases a with
     | true =>
       exact gH x2 (dH (aHm ⟨i,hi⟩) (dH (x:=gM) (by decide) y2 y3) (by simp [VT])) (by simp)
     | false =>
       exact gH x2 (dH (aHm ⟨i,hi⟩) y2 y3) (by simp)
    ·cases hr
theorem RH:∀ l:List Sm,yH jZ l=true→aHn l
 | [],_=>trivial
 | x::xs,h=>by
   rw [yH,Bool.and_eq_true] at h
   exact ⟨aKh x h.1,RH xs h.2⟩
theorem aHo:∀ l:List Jo,LN jZ l=true→aMj l
 | [],_=>⟨[],.nil,.nil⟩
 | .mk k t q n o::js,h=>by
   rw [LN,Bool.and_eq_true,rgJ] at h
   obtain ⟨h1,h2⟩:=h
   simp only [Bool.and_eq_true,decide_eq_true_eq] at h1
   obtain ⟨k0,k6,ho,hor,hso⟩:=h1
   obtain ⟨vj,j1,j2⟩:=aHo js h2
   obtain ⟨vs,s1,s2,s3⟩:=aKg hso (RH q (by
    split at hso
    ·rename_i h0
     rw [List.length_eq_zero_iff.1 h0]; rfl
    ·simp only [Bool.and_eq_true] at hso
     exact hso.2.2.2))
   obtain ⟨m,rfl⟩:∃ m:Nat,k=m:=⟨k.toNat,by omega⟩
   rw [aMj,yS,wjT,Int.toNat_natCast]
   have hm:=aMh ⟨m,by omega⟩
   by_cases hk:(m:Int)=0
   ·obtain rfl:m=0:=by omega
    rw [if_pos hk] at ho
    obtain rfl:=List.length_eq_zero_iff.1 (by simpa using ho:o.length=0)
    refine ⟨_,.cross s1 j1,?_⟩
    have:=LexO.app (.mk (dH hm (dH (x:=wJoin) (by decide) s2 s3) (by simp)) (by simp)) j2
    simpa [onB] using this
   ·rw [if_neg hk] at ho
    obtain ⟨c,rfl⟩:=aLb (by simpa using ho:o.length=1)
    rw [mD,Bool.and_eq_true] at hor
    obtain ⟨wc,c1,c2,c3⟩:=DJ (VM c hor.1)
    refine ⟨_,.on (k:=m) ⟨by omega,by omega⟩ s1 c1 j1,?_⟩
    have hon:LexO (onB [c]) (wd yG::wc):=.mk (dH (x:=yG) (by decide) c2 c3) (by simp)
    have:=LexO.app (.mk (dH hm (dH (x:=wJoin) (by decide) (LexO.aft s2 hon) (by simp [s3])) (by simp)) (by simp)) j2
    simpa using this
end
theorem aJz {x:Sm} (h:rgS jZ x=true) {N n:Nat} (hN:9*(bX (oL x)).length+8≤N) (hn:(bX (oL x)).length≤n):∃ e,eV N (n+1) (bX (oL x))=.ok (x,[e])∧e.kd=5:=by
 obtain ⟨w,h1,h2,_⟩:=(aKh x h).1
 obtain ⟨l,e,e1,e2,e3⟩:=aJv h2
 rw [e1] at hN hn ⊢
 refine ⟨e,aDI h1 e2 e3 (by simpa using hN) (by simpa using hn),e3⟩
def fU:List It→Nat
 | []=>0
 | i::is=>i.t.wgt+(i.n.length+10)+fU is
mutual
def Sm.wgt:Sm→Nat
 | .mk _ _ _ _ is ft fq fn js w g h ks=>100+(fU is+(ft.length+(jK fq+(fn.length+(gG js+(cH w+(cH g+(cH h+jK ks))))))))
def Jo.wgt:Jo→Nat
 | .mk _ t q n o=>40+(t.length+(jK q+(n.length+cH o)))
def jK:List Sm→Nat
 | []=>0
 | e::es=>e.wgt+jK es
def gG:List Jo→Nat
 | []=>0
 | e::es=>e.wgt+gG es
end
theorem aGE (n:List UInt8):(asB n).length≤n.length+4:=by
 unfold asB
 split
 ·simp
 ·simp [rV]
theorem QU:∀ (is:List It) (ws:List (List UInt8)),is.all (rgI ws)=true→jF (is.map RF)+2*is.length≤fU is
 | [],_,_=>by simp [jF,fU]
 | i::is,ws,h=>by
   rw [List.all_cons,Bool.and_eq_true] at h
   have h1:=QU is ws h.2
   have h2:=h.1
   unfold rgI at h2
   rw [Bool.and_eq_true] at h2
   have h3:=QW i.t ws h2.1
   have h4:=aGE i.n
   have h5:(RF i).length=(wr i.t).length+(asB i.n).length:=by unfold RF; rw [List.length_append]
   rw [List.map_cons,jF,fU,List.length_cons]
   omega
theorem aAy {w:List UInt8} {ts:List Tm} {ws:List (List UInt8)} (h:mD ws ts=true):(WW w ts).length≤w.length+2+cH ts:=by
 have h1:=FX ts ws h
 have h2:=nH (qD ts)
 have hl:(qD ts).length=ts.length:=by rw [pD,List.length_map]
 unfold WW
 rw [← pD]
 split
 ·simp
 ·simp only [List.length_cons,List.length_append]
  omega
theorem aLR {o:List Tm} {ws:List (List UInt8)} (h:mD ws o=true):(onB o).length≤4+cH o:=by
 cases o with
 | nil=>simp [onB]
 | cons c o =>
   rw [mD,Bool.and_eq_true] at h
   have:=QW c ws h.1
   rw [cH,onB]
   simp [yG]
   omega
theorem aGF (t n:List UInt8) (Q:List (List UInt8)):(KT t Q n).length≤t.length+(jF Q+n.length)+6:=by
 have h:=aGE n
 unfold KT
 cases Q with
 | nil=>simp only [List.length_append,jF]; omega
 | cons x Q=>simp only [List.length_append,List.length_cons,List.length_nil,jF]; omega
theorem aBU (k:Nat):(DB k).length≤5:=by
 by_cases h:k<7
 ·have:∀ k:Fin 7,(DB k.1).length≤5:=by decide
  exact this ⟨k,h⟩
 ·have h7:joiW.length=7:=rfl
  have hk:7≤k - 1∨k=7:=by omega
  have hj:joiW[k - 1]?=none∨(joiW[k - 1]?).getD []=(joiW[6]?).getD []:=by
   rcases hk with hk | rfl
   ·exact .inl (List.getElem?_eq_none (h7 ▸ hk))
   ·exact .inr rfl
  have h0:¬ k=0:=by omega
  unfold DB
  rw [if_neg h0]
  rcases hj with hj | hj
  ·rw [hj]; simp
  ·rw [hj]; decide
theorem QV {ws:List (List UInt8)} {q:List Sm} {t n:List UInt8} (h:(if q.length=0 then bP ws t&&nmO ws n else q.length==1&&(t==[]&&(bP ws n&&yH ws q)))=true):yH ws q=true:=by
 split at h
 ·rename_i h0
  rw [List.length_eq_zero_iff.1 h0]; rfl
 ·simp only [Bool.and_eq_true] at h
  exact h.2.2.2
mutual
theorem aAz:∀ (x:Sm) (ws:List (List UInt8)),rgS ws x=true→(oL x).length+4≤x.wgt
 | .mk f a d s is ft fq fn js w g h ks,ws,hr=>by
   rw [rgS] at hr
   rw [oL,Sm.wgt]
   split at hr
   ·rename_i hf
    rw [if_pos hf]
    simp only [Bool.and_eq_true,decide_eq_true_eq] at hr
    obtain ⟨_,_,_,_,_,hso,hi,hj,hw,hg,hh⟩:=hr
    have h1:=FW fq ws (QV hso)
    have h2:=aBV js ws hj
    have h3:=QU is ws hi
    have h4:=nH (is.map RF)
    have h5:=aAy (w:=wWhere) hw
    have h6:=aAy (w:=iO++32::RJ) hg
    have h7:=aAy (w:=wHaving) hh
    have h8:=aGF ft fn (jR fq)
    have h9:(if d=true then aO++[32] else []).length≤9:=by split <;> simp [aO]
    have h10:(if s=true then [42] else ([]:List UInt8)).length≤1:=by split <;> simp
    have e1:wWhere.length=5:=rfl
    have e2:(iO++32::RJ).length=8:=rfl
    have e3:wHaving.length=6:=rfl
    have e4:wSelect.length=6:=rfl
    have e5:wFrom.length=4:=rfl
    rw [List.length_map] at h4
    unfold aEg
    simp only [List.length_append,List.length_cons] at h6 e2 h9 ⊢
    omega
   ·rename_i hf
    rw [if_neg hf]
    split at hr
    ·simp only [Bool.and_eq_true] at hr
     have h1:=FW ks ws hr.2.1
     have h2:=aBW (jR ks)
     have h3:((setW[(f - 2).toNat]?).getD []).length≤9:=by
      cases hg:setW[(f - 2).toNat]? with
      | none=>simp
      | some x =>
        have:∀ x∈setW,x.length≤9:=by decide
        exact this x (List.mem_of_getElem? hg)
     have h4:(if a=true then 32::gM else []).length≤4:=by split <;> simp [gM]
     have h5:(if qL (ks.map Sm.form) 1 1=1 then qL (jR ks) [] 1 else 40::(qL (jR ks) [] 1++[41])).length≤(qL (jR ks) [] 1).length+2:=by split <;> simp
     unfold aEh
     rw [List.length_append,List.length_cons,List.length_append,List.length_append,List.length_cons]
     omega
    ·cases hr
theorem FW:∀ (l:List Sm) (ws:List (List UInt8)),yH ws l=true→jF (jR l)+4*l.length≤jK l
 | [],_,_=>by simp [jR,jF,jK]
 | k::ks,ws,h=>by
   rw [yH,Bool.and_eq_true] at h
   have h1:=aAz k ws h.1
   have h2:=FW ks ws h.2
   rw [jR,jF,jK,List.length_cons]
   omega
theorem aLS:∀ (j:Jo) (ws:List (List UInt8)),rgJ ws j=true→(wjT j).length≤j.wgt
 | .mk k t q n o,ws,h=>by
   rw [rgJ] at h
   simp only [Bool.and_eq_true] at h
   have h1:=FW q ws (QV h.2.2.2.2)
   have h2:=aLR h.2.2.2.1
   have h3:=aGF t n (jR q)
   have h4:=aBU k.toNat
   have e1:wJoin.length=4:=rfl
   rw [wjT,Jo.wgt]
   simp only [List.length_append,List.length_cons]
   omega
theorem aBV:∀ (l:List Jo) (ws:List (List UInt8)),LN ws l=true→(yS l).length≤gG l
 | [],_,_=>by simp [yS,gG]
 | k::ks,ws,h=>by
   rw [LN,Bool.and_eq_true] at h
   have h1:=aLS k ws h.1
   have h2:=aBV ks ws h.2
   rw [yS,gG,List.length_append]
   omega
end
def joL:List (List UInt8):=[[99,114,111,115,115],[105,110,110,101,114],[108,101,102,116],[114,105,103,104,116],[102,117,108,108],[115,101,109,105],[97,110,116,105]]
def ejG (g:Nat):Option (List D):=if g=2 then some [.sl (joL.map fun w=>[.str w])] else esG g
noncomputable def Ej:dA:=⟨Tryz.prog,ejG⟩
@[simp] theorem aPy:Ej.P=Tryz.prog:=id rfl
@[simp] theorem aMG (g:Nat):Ej.G g=ejG g:=rfl
@[simp] theorem aNU:ejG 2=some [.sl (joL.map fun w=>[.str w])]:=id rfl
theorem EP:Ej.P.follows .mixedOrders=true:=by kernel_rfl
theorem upj {f:FuncId} {xs:List AV} {B:List Blk} {y:AV} {B':List Blk} (h:Cf Es f xs B y B'):Cf Ej f xs B y B':=Cf.more (E:=Es) (E':=Ej) rfl (fun g cs e=>by
 rw [aMI] at e
 rw [aMG,ejG]
 by_cases hg:g=2
 ·subst hg
  have:esG 2=none:=rfl
  rw [this] at e; cases e
 ·rw [if_neg hg]; exact e) h
theorem aHS {k:Int} (h:0≤k∧k≤6):joL[k.toNat]?=some (DB k.toNat):=by
 have:k=0∨k=1∨k=2∨k=3∨k=4∨k=5∨k=6:=by omega
 rcases this with rfl | rfl | rfl | rfl | rfl | rfl | rfl <;> rfl
section
variable {s:List UInt8} (hs:s.length≤5000) {L:Nat} {p q:RS→Tm×RS} {st:RS}
include hs
theorem aIA (hp:LO s L 199 p) (hq:LO s (L+1) 207 q) (ha:At (bX s) st.1) (hl:st.1.length≤L+1)
  {res:Tm×RS} (hres:(if dJ gB st=true then
   (if (aK st).2<0∧(eU (aK st).1).kd=2∧(eU (aK st).1).n ≠ 0 then (Tm.mk 2 0 (IntKind.i64.wrap (-(eU (aK st).1).n)) [] [] [],aK (aK st))
   else (cD 11 [(p (aK st)).1],(p (aK st)).2)) else q st)=res) :
  Cf Es 199 [.ptr 1000000 0 0] [iP s st] res.1.a [iP s res.2]:=by
 refine cI bI (fn:=Tryz.f199) rfl ?_
 cases hw:dJ gB st with
 | true =>
   rw [if_pos hw] at hres
   have hlen:=fT hw
   have h3:=ha.kp (cG hw)
   have hto:=bG hs ha hw
   generalize aK st=st2 at *
   have h4:=hp.run st2 h3 (by omega)
   refine gs ?_
   refine kZ (hto) ?_
   by_cases hc:st2.2<0∧(eU st2.1).kd=2∧(eU st2.1).n ≠ 0
   ·rw [if_pos hc] at hres
    subst hres
    obtain ⟨c1,c2,c3⟩:=hc
    have hnx:=JE hs h3 (iS (by omega) (by omega))
    simp [c1,c2,c3]
    refine gw ?_
    refine aH [1000000] (hnx) (by simp [c2]) (by simp) ?_
    simp [Tm.c,dC] <;> exact gz
   ·rw [if_neg hc] at hres
    subst hres
    by_cases c1:st2.2<0
    ·by_cases c2:(eU st2.1).kd=2
     ·have c3:(eU st2.1).n=0:=by
       by_cases c3:(eU st2.1).n=0
       ·exact c3
       ·exact absurd ⟨c1,c2,c3⟩ hc
      simp [c1,c2,c3]
      refine gw ?_
      refine aH [1000000] (h4) (by simp [c2,c3]) (by simp) ?_
      refine gs ?_
      refine aA (iQ (AQ 11 (p st2).1)) (by simp) ?_
      exact gq
     ·simp [c1]
      refine gw ?_
      refine kZ (h4) ?_
      refine gs ?_
      refine aA (iQ (AQ 11 (p st2).1)) (by simp) ?_
      exact gq
    ·have c1':0≤st2.2:=by omega
     simp [c1]
     refine gw ?_
     refine kZ (h4) ?_
     refine gs ?_
     refine aA (iQ (AQ 11 (p st2).1)) (by simp) ?_
     exact gq
 | false =>
   rw [if_neg (by rw [hw]; exact Bool.false_ne_true)] at hres
   subst hres
   have h4:=hq.run st ha hl
   refine gs ?_
   refine kZ (aX hs ha hw) ?_
   refine gs ?_
   refine kZ (h4) ?_
   exact gq
end
end Go.Proofs.Tryz
