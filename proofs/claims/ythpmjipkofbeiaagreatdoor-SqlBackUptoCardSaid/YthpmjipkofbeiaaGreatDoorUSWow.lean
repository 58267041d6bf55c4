import Derived.Test.YthpmjipkofbeiaaGreatDoorURea
import Derived.Test.YthpmjipkofbeiaaGreatDoorUPrj
import Derived.Deep.DeepWitnessRowRef
set_option linter.all false
namespace Go.Proofs.Tryz
open Go.Ab Go.RowKit Go.Sort
set_option maxRecDepth 100000
set_option maxHeartbeats 4000000
theorem aKJ (l:List (List UInt8)) (sep:List UInt8) (hN:l.length≤140737488355328) (hlen:(Lib.join l sep).length≤140737488355328) :
  Cf Es 89 [.d (.sl (l.map fun s=>[.str s])),.d (.str sep)] [] (.d (.str (Lib.join l sep))) []:=by
 refine nZ (by kernel_rfl) fun w g vs hr m=>?_
 simp only [bB,aG,aU] at hr
 obtain ⟨u,us,rfl,⟨a,cap,rfl,hcap,hr⟩,u2,us2,rfl,rfl,rfl⟩:=hr
 simp only [List.length_map] at hcap hr ⊢
 by_cases h0:l=[]
 ·subst h0
  refine (Tryz.strings_Join_none a cap ⟨sep.toArray⟩ w).mono ?_
  rintro e w' ⟨rfl,rfl⟩
  exact ⟨_,rfl,by simp [aG,aU,Lib.join],Below.refl _ _⟩
 ·rcases hr with hr | ⟨b,o,sz,rfl,hels⟩
  ·simp at hr; exact absurd hr h0
  ·have hget:=gW.1 hels
   have hsz:sz=1:=by
    have hpos:0<l.length:=List.length_pos_iff.2 h0
    have:=(hget 0 [.str l[0]] (by rw [List.getElem?_map,gE hpos]; rfl)).1
    simpa using this.symm
   subst hsz
   have hc:∀ (j:Nat) x,(l.map fun s=>(⟨s.toArray⟩:ByteArray))[j]?=some x→w.cell? ⟨b,o+j,none⟩=some (.string x):=fun j x hx=>by
    rw [List.getElem?_map,Option.map_eq_some_iff] at hx
    obtain ⟨s,hs,rfl⟩:=hx
    obtain ⟨_,hr⟩:=hget j [.str s] (by rw [List.getElem?_map,hs]; rfl)
    obtain ⟨v,hv,hrv⟩:=hr.1
    have:=m.con _ _ _ hv
    simp only [aU] at hrv
    subst hrv
    rw [← this]
    congr 2
    omega
   have hbk:b<w.heap.size:=by
    have hpos:0<l.length:=List.length_pos_iff.2 h0
    have:=hc 0 ⟨l[0].toArray⟩ (by rw [List.getElem?_map,gE hpos]; rfl)
    unfold World.cell? at this
    rcases Nat.lt_or_ge b w.heap.size with c | c
    ·exact c
    ·rw [show w.heap[b]?=none from Array.getElem?_eq_none c] at this
     cases this
   have hmm:(l.map fun s=>(⟨s.toArray⟩:ByteArray)).map (fun x=>x.data.toList)=l:=by
    rw [List.map_map]
    exact List.map_id' l
   have:=Tryz.strings_Join b o cap (l.map fun s=>(⟨s.toArray⟩:ByteArray)) ⟨sep.toArray⟩ w hc hbk (by simpa using hN) (by simpa using hcap) (by rw [hmm]; exact hlen)
   rw [hmm] at this
   simp only [List.length_map] at this
   refine this.mono ?_
   rintro e w' ⟨rfl,hb⟩
   exact ⟨_,rfl,by simp only [aG,aU],hb⟩
theorem MV:∀ l:List (List UInt8),eH l=Lib.join l [44,32]
 | []=>by simp [eH,Lib.join,List.intercalate]
 | [a]=>by simp [eH,Lib.join,List.intercalate]
 | a::b::r=>by
   rw [show eH (a::b::r)=a++44::32::eH (b::r) from rfl,MV (b::r)]
   simp [Lib.join,List.intercalate]
theorem aBc (l:List (List UInt8)) (hN:l.length≤140737488355328) (hlen:(eH l).length≤140737488355328) :
  Cf Es 89 [.d (.sl (l.map fun s=>[.str s])),.d (.str [44,32])] [] (.d (.str (eH l))) []:=by
 rw [MV] at hlen ⊢
 exact aKJ l [44,32] hN hlen
end Go.Proofs.Tryz
namespace Go.Proofs.Tryz
open Go.Ab
set_option maxRecDepth 100000
set_option maxHeartbeats 4000000
theorem FZ:∀ n:Nat,n<24→sgB n=if jY n=true then some ((gP n).1,(gP n).2.1.toNat,(gP n).2.2.1.toNat,(gP n).2.2.2.toNat) else none:=by decide
theorem aCb:∀ n:Nat,n<24→0≤(gP n).2.1∧0≤(gP n).2.2.1∧0≤(gP n).2.2.2∧(gP n).2.1≤7∧(gP n).2.2.1≤7∧(gP n).2.2.2≤7:=by decide
theorem WR {o:Int} (h:jY o=true):∃ n:Nat,o=n∧n<24:=by
 unfold jY at h
 simp only [Bool.and_eq_true,decide_eq_true_eq] at h
 exact ⟨o.toNat,by omega,by omega⟩
theorem WS {o:Int} (h:jY o=false):sgB o=none:=by
 by_cases h1:0≤o∧o<24
 ·obtain ⟨n,rfl⟩:∃ n:Nat,o=n:=⟨o.toNat,by omega⟩
  rw [FZ n (by omega),h]
  rfl
 ·unfold sgB
  repeat' split
  all_goals first | omega | rfl
theorem aLY (x:Tm):Cf Es 86 [x.a] [] (.d (.int .i64 (tA x))) []:=by
 refine cI bI (fn:=Tryz.f86) rfl ?_
 obtain ⟨o,y,n,t,q,ks⟩:=x
 have ho:=pB o
 rw [tA,rkO]
 cases hs:jY o with
 | true =>
   rw [hs] at ho
   obtain ⟨k,rfl,hk⟩:=WR hs
   rw [FZ k hk,if_pos hs]
   have hn:=(aCb k hk).1
   simp only
   rw [Int.toNat_of_nonneg hn]
   generalize gP k=z at *
   simp [Tm.a,Tm.c,aS]
   refine gr ?_
   refine aP ho ?_
   simp [RB]
   all_goals exact gz
 | false =>
   rw [hs] at ho
   rw [WS hs]
   simp only
   simp [Tm.a,Tm.c,aS]
   refine gr ?_
   refine aP ho ?_
   simp [RB,aEc]
   (repeat' (first|contradiction|exact .ok|apply And.intro|intro _|(refine gc (fun h=>?_) (fun h=>?_)<;>(have h':=h;(try simp at h');first|done|simp[h,h']|simp))))
   all_goals (first | (simp_all; done) | (simp_all; omega) | (simp_all; split <;> omega))
theorem aJq (x:Tm) (want:Nat) (hw:want≤7) (hl:(wr x).length≤1099511627776) (h:Cf Es 23 [x.a] [] (.d (.str (wr x))) []) :
  Cf Es 49 [x.a,.d (.int .i64 want)] [] (.d (.str (yT want (tA x) (wr x)))) []:=by
 refine cI bI (fn:=Tryz.f49) rfl ?_
 have hr:=aLY x
 have c1:=x.clen
 have k1:=x.ctake
 unfold yT
 generalize wr x=W at *
 have l1:1+W.length≤9223372036854775807:=by omega
 have l2:1+W.length+1≤9223372036854775807:=by omega
 have l3:W.length+1≤9223372036854775807:=by omega
 have l4:W.length+1+1≤9223372036854775807:=by omega
 simp [Tm.a,c1,k1]
 refine gr ?_
 refine aA hr (by simp [Tm.a]) ?_
 by_cases hlt:tA x<want
 ·have hlt':(tA x:Int)<want:=by omega
  simp [hlt,hlt',c1,k1]
  (repeat' (first|contradiction|exact .ok|apply And.intro|intro _|(refine gc (fun h=>?_) (fun h=>?_)<;>(have h':=h;(try simp at h');first|done|simp[h,h',hlt,hlt',c1,k1]|simp[hlt,hlt',c1,k1]))))
  refine aA h (by simp [Tm.a]) ?_
  simp [l1,l4]
  (repeat' (first|contradiction|exact .ok|apply And.intro|intro _|(refine gc (fun h=>?_) (fun h=>?_)<;>(have h':=h;(try simp at h');first|done|simp[h,h',l1,l2,l3,l4]|simp[l1,l2,l3,l4]))))
  all_goals (first | omega | skip)
 ·have hlt':¬ (tA x:Int)<want:=by omega
  simp [hlt,hlt',c1,k1]
  (repeat' (first|contradiction|exact .ok|apply And.intro|intro _|(refine gc (fun h=>?_) (fun h=>?_)<;>(have h':=h;(try simp at h');first|done|simp[h,h',hlt,hlt',c1,k1]|simp[hlt,hlt',c1,k1]))))
  refine aA h (by simp [Tm.a]) ?_
  simp
  all_goals exact gz
theorem CI (F:FuncId) (w:Tm→List UInt8) (l:List Tm) (hl:l.length≤1000000000000) (hb:(eH (l.map w)).length≤140737488355328) (h:∀ x∈l,Cf Es F [x.a] [] (.d (.str (w x))) []) :
  Cf Es 52 [.d (.sl (l.map Tm.c)),.clo F []] [] (.d (.str (eH (l.map w)))) []:=by
 refine cI bI (fn:=Tryz.f52) rfl ?_
 have hj:=aBc (l.map w) (by rw [List.length_map]; omega) hb
 rw [List.map_map] at hj
 generalize eH (l.map w)=J at *
 simp
 refine gr ?_
 refine aL bI (fun i:Nat=>{ s:=eP [(1,.clo F []),(5,.ref 900 0 i 1),(8,.d (.sl (l.map Tm.c))),(9,.d (.int .i64 l.length)),(10,.d (.int .i64 i))],b:=eG [(900,900,.arr 9 1 ((l.take i).map fun x=>[D.str (w x)]) false)] }) (fun i:Nat=>i≤l.length) (fun i=>l.length - i) 0 (by simp)
  (FF 5 900 9 1 (by simp) (by simp) (by decide) (by decide) _ [(900,900,_)] ⟨by simp,by simp,by simp [aD,Blk.live],by simp⟩ (by simp [aD])) ?_
 intro i hi
 by_cases hlt:i<l.length
 ·have hlt':(i:Int)<l.length:=by omega
  obtain ⟨x,hx⟩:∃ x,x=l[i]:=⟨_,rfl⟩
  have hgo:l[i]?=some x:=by rw [hx]; exact gE hlt
  have hge:∀ h,l[i]'h=x:=fun _=>hx.symm
  have c1:=x.clen
  have k1:=x.ctake
  have hr:=h x (by rw [hx]; exact List.getElem_mem hlt)
  have htk:l.take (i+1)=l.take i++[x]:=by rw [List.take_add_one,hgo]; rfl
  have hmin:min i l.length=i:=by omega
  have hwr:=wI (n:=(i:Int)+1)
  have s1:(i+1)*16≤140737488355328:=by omega
  have s2:i+1≤9223372036854775807:=by omega
  have s3:i≤9223372036854775806:=by omega
  simp [hlt,hlt',hge,c1,k1]
  refine gw ?_
  refine aA hr (by simp [Tm.a]) ?_
  simp [hmin,s1,s2]
  refine gw ?_
  refine ⟨i+1,hlt,?_,by simp only; omega⟩
  exact sM _ [(900,19,_)] (by simp [aD,Blk.live,htk]) (by simp [aD,hwr])
 ·obtain rfl:i=l.length:=by omega
  have htl:List.take l.length (l.map fun x=>[D.str (w x)])=l.map fun x=>[D.str (w x)]:=List.take_of_length_le (by simp)
  refine gs ?_
  refine aA hj (by simp [Function.comp_def,htl]) ?_
  simp
  all_goals exact gz
theorem aDn (F:FuncId) (w:It→List UInt8) (l:List It) (hl:l.length≤1000000000000) (hb:(eH (l.map w)).length≤140737488355328) (h:∀ x∈l,Cf Es F [x.a] [] (.d (.str (w x))) []) :
  Cf Es 68 [.d (.sl (l.map It.c)),.clo F []] [] (.d (.str (eH (l.map w)))) []:=by
 refine cI bI (fn:=Tryz.f68) rfl ?_
 have hj:=aBc (l.map w) (by rw [List.length_map]; omega) hb
 rw [List.map_map] at hj
 generalize eH (l.map w)=J at *
 simp
 refine gr ?_
 refine aL bI (fun i:Nat=>{ s:=eP [(1,.clo F []),(5,.ref 900 0 i 1),(8,.d (.sl (l.map It.c))),(9,.d (.int .i64 l.length)),(10,.d (.int .i64 i))],b:=eG [(900,900,.arr 9 1 ((l.take i).map fun x=>[D.str (w x)]) false)] }) (fun i:Nat=>i≤l.length) (fun i=>l.length - i) 0 (by simp)
  (FF 5 900 9 1 (by simp) (by simp) (by decide) (by decide) _ [(900,900,_)] ⟨by simp,by simp,by simp [aD,Blk.live],by simp⟩ (by simp [aD])) ?_
 intro i hi
 by_cases hlt:i<l.length
 ·have hlt':(i:Int)<l.length:=by omega
  obtain ⟨x,hx⟩:∃ x,x=l[i]:=⟨_,rfl⟩
  have hgo:l[i]?=some x:=by rw [hx]; exact gE hlt
  have hge:∀ h,l[i]'h=x:=fun _=>hx.symm
  have c1:=x.clen
  have k1:=x.ctake
  have hr:=h x (by rw [hx]; exact List.getElem_mem hlt)
  have htk:l.take (i+1)=l.take i++[x]:=by rw [List.take_add_one,hgo]; rfl
  have hmin:min i l.length=i:=by omega
  have hwr:=wI (n:=(i:Int)+1)
  have s1:(i+1)*16≤140737488355328:=by omega
  have s2:i+1≤9223372036854775807:=by omega
  have s3:i≤9223372036854775806:=by omega
  simp [hlt,hlt',hge,c1,k1]
  refine gw ?_
  refine aA hr (by simp [It.a]) ?_
  simp [hmin,s1,s2]
  refine gw ?_
  refine ⟨i+1,hlt,?_,by simp only; omega⟩
  exact sM _ [(900,19,_)] (by simp [aD,Blk.live,htk]) (by simp [aD,hwr])
 ·obtain rfl:i=l.length:=by omega
  have htl:List.take l.length (l.map fun x=>[D.str (w x)])=l.map fun x=>[D.str (w x)]:=List.take_of_length_le (by simp)
  refine gs ?_
  refine aA hj (by simp [Function.comp_def,htl]) ?_
  simp
  all_goals exact gz
def WrK (x:Tm):Prop:=Cf Es 23 [x.a] [] (.d (.str (wr x))) []∧(wr x).length≤1099511627776
theorem WrK.pl {x:Tm} (h:WrK x) (want:Nat) (hw:want≤7):Cf Es 49 [x.a,.d (.int .i64 want)] [] (.d (.str (yT want (tA x) (wr x)))) []∧(yT want (tA x) (wr x)).length≤1099511627778 :=
 ⟨aJq x want hw h.2 h.1,by have:=(aBX want (tA x) (wr x)).1; have:=h.2; omega⟩
theorem jL {o:Int} (h:jY o=false):Cf Es 48 [.d (.int .i64 o)] [] (.tup [.agg [.d (.str []),.d (.int .i64 0),.d (.int .i64 0),.d (.int .i64 0)],.d (.bool false)]) []:=by
 have:=pB o
 rw [h] at this
 exact this
theorem aKe {o:Int} (hs:jY o=true) (a b:Tm) (ha:WrK a) (hb:WrK b):Cf Es 23 [(cD o [a,b]).a] [] (.d (.str (wr (cD o [a,b])))) []:=by
 refine cI bI (fn:=Tryz.f23) rfl ?_
 have ho:=pB o
 rw [hs] at ho
 obtain ⟨k,rfl,hk⟩:=WR hs
 have hn:=aCb k hk
 rw [show wr (cD (k:Int) [a,b])=yT (gP k).2.2.1.toNat (tA a) (wr a)++32::((gP k).1++32::yT (gP k).2.2.2.toNat (tA b) (wr b)) from by
  unfold cD
  rw [wr,wrO,FZ k hk,if_pos hs]
  rfl]
 have sl:(gP k).1.length≤4:=aBY (o:=k) (x:=((gP k).1,(gP k).2.1.toNat,(gP k).2.2.1.toNat,(gP k).2.2.2.toNat)) (by rw [FZ k hk,if_pos hs])
 obtain ⟨pa,la⟩:=ha.pl (gP k).2.2.1.toNat (by omega)
 obtain ⟨pb,lb⟩:=hb.pl (gP k).2.2.2.toNat (by omega)
 rw [Int.toNat_of_nonneg hn.2.1] at pa
 rw [Int.toNat_of_nonneg hn.2.2.1] at pb
 generalize yT (gP k).2.2.1.toNat (tA a) (wr a)=A at *
 generalize yT (gP k).2.2.2.toNat (tA b) (wr b)=B at *
 clear hn
 generalize gP k=z at *
 obtain ⟨sg,r,lf,rg⟩:=z
 simp only at *
 have c1:=a.clen
 have k1:=a.ctake
 have c2:=b.clen
 have k2:=b.ctake
 have e1:A.length≤9223372036854775806:=by omega
 have e2:A.length+1+sg.length≤9223372036854775807:=by omega
 have e3:A.length+(sg.length+1)≤9223372036854775806:=by omega
 have e4:A.length+1+sg.length+1≤9223372036854775807:=by omega
 have e5:A.length+1+sg.length+1+B.length≤9223372036854775807:=by omega
 have e6:A.length+(sg.length+1)≤9223372036854775807:=by omega
 have e7:A.length+(sg.length+1)+1≤9223372036854775807:=by omega
 have e8:A.length+(sg.length+1+1)≤9223372036854775807:=by omega
 have e9:A.length+(sg.length+1+1)+B.length≤9223372036854775807:=by omega
 simp [cD,Tm.a,Tm.c,dC]
 (repeat refine ⟨.of (by kernel_rfl),?_⟩)
 refine aP ho ?_
 simp [RB,c1,k1]<;>(repeat' first|contradiction|exact .ok|apply And.intro|intro _|(apply gc<;>simp+contextual[c1,k1,c2,k2]))
 refine aA pa (by simp [Tm.a]) ?_
 simp [c2,k2,e1,e2,e7]
 refine aA pb (by simp [Tm.a]) ?_
 simp [e9]<;>(repeat' first|contradiction|exact .ok|apply And.intro|intro _|(apply gc<;>simp+contextual[e1,e2,e3,e4,e5,e6,e7,e8,e9]))
theorem aNG (a:Tm) (ha:WrK a):Cf Es 23 [(cD 24 [a]).a] [] (.d (.str (wr (cD 24 [a])))) []:=by
 refine cI bI (fn:=Tryz.f23) rfl ?_
 rw [show wr (cD 24 [a])=wNot++32::yT 2 (tA a) (wr a) from by unfold cD; rw [wr,qD,qD]; rfl]
 have ho:=jL (o:=24) (by decide)
 obtain ⟨pa,la⟩:=ha.pl 2 (by decide)
 generalize yT 2 (tA a) (wr a)=A at *
 have c1:=a.clen
 have k1:=a.ctake
 have g1:∀ k:Nat,k≤1000→k+A.length≤9223372036854775807:=fun k h=>by omega
 have g2:∀ k:Nat,9223372036854770000≤k→A.length≤k:=fun k h=>by omega
 have g3:∀ k j:Nat,k≤1000→j≤1000→k+A.length+j≤9223372036854775807:=fun k j h1 h2=>by omega
 have g4:∀ k j:Nat,k≤1000→j≤1000→k+(A.length+j)≤9223372036854775807:=fun k j h1 h2=>by omega
 simp [cD,Tm.a,Tm.c,dC]
 (repeat refine ⟨.of (by kernel_rfl),?_⟩)
 refine aP ho ?_
 simp [c1,k1]<;>(repeat' first|contradiction|exact .ok|apply And.intro|intro _|(apply gc<;>simp+contextual[c1,k1]))
 refine aA pa (by simp [Tm.a]) ?_
 simp [g1]<;>(repeat' first|contradiction|exact .ok|apply And.intro|intro _|(apply gc<;>simp+contextual[g1,g2,g3,g4]))
 all_goals (first | rfl | omega | skip)
theorem aGW (a:Tm) (ha:WrK a):Cf Es 23 [(cD 21 [a]).a] [] (.d (.str (wr (cD 21 [a])))) []:=by
 refine cI bI (fn:=Tryz.f23) rfl ?_
 rw [show wr (cD 21 [a])=yT 4 (tA a) (wr a)++32::(wIs++32::wNull) from by unfold cD; rw [wr,qD,qD]; rfl]
 have ho:=jL (o:=21) (by decide)
 obtain ⟨pa,la⟩:=ha.pl 4 (by decide)
 generalize yT 4 (tA a) (wr a)=A at *
 have c1:=a.clen
 have k1:=a.ctake
 have g1:∀ k:Nat,k≤1000→k+A.length≤9223372036854775807:=fun k h=>by omega
 have g2:∀ k:Nat,9223372036854770000≤k→A.length≤k:=fun k h=>by omega
 have g3:∀ k j:Nat,k≤1000→j≤1000→k+A.length+j≤9223372036854775807:=fun k j h1 h2=>by omega
 have g4:∀ k j:Nat,k≤1000→j≤1000→k+(A.length+j)≤9223372036854775807:=fun k j h1 h2=>by omega
 simp [cD,Tm.a,Tm.c,dC]
 (repeat refine ⟨.of (by kernel_rfl),?_⟩)
 refine aP ho ?_
 simp [c1,k1]<;>(repeat' first|contradiction|exact .ok|apply And.intro|intro _|(apply gc<;>simp+contextual[c1,k1]))
 refine aA pa (by simp [Tm.a]) ?_
 simp [g2]<;>(repeat' first|contradiction|exact .ok|apply And.intro|intro _|(apply gc<;>simp+contextual[g1,g2,g3,g4]))
 all_goals (first | rfl | omega | skip)
theorem aGX (a:Tm) (ha:WrK a):Cf Es 23 [(cD 25 [a]).a] [] (.d (.str (wr (cD 25 [a])))) []:=by
 refine cI bI (fn:=Tryz.f23) rfl ?_
 rw [show wr (cD 25 [a])=yT 4 (tA a) (wr a)++32::(wIs++32::wTrue) from by unfold cD; rw [wr,qD,qD]; rfl]
 have ho:=jL (o:=25) (by decide)
 obtain ⟨pa,la⟩:=ha.pl 4 (by decide)
 generalize yT 4 (tA a) (wr a)=A at *
 have c1:=a.clen
 have k1:=a.ctake
 have g1:∀ k:Nat,k≤1000→k+A.length≤9223372036854775807:=fun k h=>by omega
 have g2:∀ k:Nat,9223372036854770000≤k→A.length≤k:=fun k h=>by omega
 have g3:∀ k j:Nat,k≤1000→j≤1000→k+A.length+j≤9223372036854775807:=fun k j h1 h2=>by omega
 have g4:∀ k j:Nat,k≤1000→j≤1000→k+(A.length+j)≤9223372036854775807:=fun k j h1 h2=>by omega
 simp [cD,Tm.a,Tm.c,dC]
 (repeat refine ⟨.of (by kernel_rfl),?_⟩)
 refine aP ho ?_
 simp [c1,k1]<;>(repeat' first|contradiction|exact .ok|apply And.intro|intro _|(apply gc<;>simp+contextual[c1,k1]))
 refine aA pa (by simp [Tm.a]) ?_
 simp [g2]<;>(repeat' first|contradiction|exact .ok|apply And.intro|intro _|(apply gc<;>simp+contextual[g1,g2,g3,g4]))
 all_goals (first | rfl | omega | skip)
theorem aNH (a:Tm) (ha:WrK a):Cf Es 23 [(cD 13 [a]).a] [] (.d (.str (wr (cD 13 [a])))) []:=by
 refine cI bI (fn:=Tryz.f23) rfl ?_
 rw [show wr (cD 13 [a])=wLength++40::(wr a++[41]) from by unfold cD; rw [wr,qD,qD]; rfl]
 have ho:=jL (o:=13) (by decide)
 obtain ⟨pa,la⟩:=ha
 generalize wr a=A at *
 have c1:=a.clen
 have k1:=a.ctake
 have g1:∀ k:Nat,k≤1000→k+A.length≤9223372036854775807:=fun k h=>by omega
 have g2:∀ k:Nat,9223372036854770000≤k→A.length≤k:=fun k h=>by omega
 have g3:∀ k j:Nat,k≤1000→j≤1000→k+A.length+j≤9223372036854775807:=fun k j h1 h2=>by omega
 have g4:∀ k j:Nat,k≤1000→j≤1000→k+(A.length+j)≤9223372036854775807:=fun k j h1 h2=>by omega
 simp [cD,Tm.a,Tm.c,dC]
 (repeat refine ⟨.of (by kernel_rfl),?_⟩)
 refine aP ho ?_
 simp [c1,k1]<;>(repeat' first|contradiction|exact .ok|apply And.intro|intro _|(apply gc<;>simp+contextual[c1,k1]))
 refine aA pa (by simp [Tm.a]) ?_
 simp [g1,g2]<;>(repeat' first|contradiction|exact .ok|apply And.intro|intro _|(apply gc<;>simp+contextual[g1,g2,g3,g4]))
 all_goals (first | rfl | omega | skip)
theorem aNI (a:Tm) (ha:WrK a):Cf Es 23 [(cD 11 [a]).a] [] (.d (.str (wr (cD 11 [a])))) []:=by
 refine cI bI (fn:=Tryz.f23) rfl ?_
 have ho:=jL (o:=11) (by decide)
 obtain ⟨pp,lp⟩:=ha.pl 6 (by decide)
 obtain ⟨pa,la⟩:=ha
 rw [show wr (cD 11 [a])=if PL a=true then 45::40::(wr a++[41]) else 45::yT 6 (tA a) (wr a) from by unfold cD; rw [wr,qD,qD]; rfl]
 generalize yT 6 (tA a) (wr a)=P at *
 generalize wr a=A at *
 obtain ⟨o,y,n,t,q,ks⟩:=a
 have hp:PL (.mk o y n t q ks)=((o==2)&&decide (0<n)):=by rfl
 rw [hp]
 have g1:∀ k:Nat,k≤1000→k+A.length≤9223372036854775807:=fun k h=>by omega
 have g2:∀ k:Nat,9223372036854770000≤k→A.length≤k:=fun k h=>by omega
 have g3:∀ k j:Nat,k≤1000→j≤1000→k+A.length+j≤9223372036854775807:=fun k j h1 h2=>by omega
 have g4:∀ k j:Nat,k≤1000→j≤1000→k+(A.length+j)≤9223372036854775807:=fun k j h1 h2=>by omega
 have h1:∀ k:Nat,k≤1000→k+P.length≤9223372036854775807:=fun k h=>by omega
 have h2:∀ k:Nat,9223372036854770000≤k→P.length≤k:=fun k h=>by omega
 simp [Tm.a,Tm.c,aS] at pp pa
 simp [cD,Tm.a,Tm.c,aS]
 (repeat refine ⟨.of (by kernel_rfl),?_⟩)
 refine aP ho ?_
 by_cases h2':o=2
 ·subst h2'
  by_cases hn:0<n
  ·simp [hn]<;>(repeat' first|contradiction|exact .ok|apply And.intro|intro _|(apply gc<;>simp+contextual[hn]))
   refine aP pa ?_
   simp [g1,g2]<;>(repeat' first|contradiction|exact .ok|apply And.intro|intro _|(apply gc<;>simp+contextual[g1,g2,g3,g4]))
   all_goals (first | rfl | omega | skip)
  ·simp [hn]<;>(repeat' first|contradiction|exact .ok|apply And.intro|intro _|(apply gc<;>simp+contextual[hn]))
   refine aP pp ?_
   simp [h1]<;>(repeat' first|contradiction|exact .ok|apply And.intro|intro _|(apply gc<;>simp+contextual[h1,h2]))
   all_goals (first | rfl | omega | skip)
 ·simp [h2']<;>(repeat' first|contradiction|exact .ok|apply And.intro|intro _|(apply gc<;>simp+contextual[h2']))
  refine aP pp ?_
  simp [h1]<;>(repeat' first|contradiction|exact .ok|apply And.intro|intro _|(apply gc<;>simp+contextual[h1,h2]))
  all_goals (first | rfl | omega | skip)
theorem CV:words=jZ:=by decide
mutual
theorem aJR:∀ t:Tm,t.right=rgT words t
 | .mk o y n t q ks=>by rw [Tm.right,rgT,CW ks]; rfl
theorem CW:∀ l:List Tm,kO l=mD words l
 | []=>rfl
 | e::es=>by rw [kO,mD,aJR e,CW es]
end
theorem aMY:kU=rgI words:=by funext i; unfold kU rgI; rw [aJR]; rfl
mutual
theorem aBr:∀ x:Sm,x.right=rgS words x
 | .mk f a d s is ft fq fn js w g h ks=>by rw [Sm.right,rgS,QB fq,QB ks,aFK js,CW w,CW g,CW h,aMY]; rfl
theorem aMZ:∀ x:Jo,x.right=rgJ words x
 | .mk k t q n o=>by rw [Jo.right,rgJ,QB q,CW o]; rfl
theorem QB:∀ l:List Sm,iL l=yH words l
 | []=>rfl
 | e::es=>by rw [iL,yH,aBr e,QB es]
theorem aFK:∀ l:List Jo,qB l=LN words l
 | []=>rfl
 | e::es=>by rw [qB,LN,aMZ e,aFK es]
end
def wbT:Nat→Nat
 | 0=>300
 | d+1=>300+4*wbT d
theorem DG (L:List Int) (i:Nat):(eW L i).1.wgt≤300:=by
 have h3:∀ x∈cS 3,x.t.length≤100:=by decide
 have hv:=h3 _ (WG L (i+1) 3 (by decide))
 have hn:=aBS
 have hq:=aBT
 unfold eW
 repeat' split
 all_goals (simp only [Tm.wgt,cH,List.length_nil]; try omega)
 ·have:=hn (aQ L (i+1) 5); have:=hq (aQ L (i+2) 2); omega
 ·have:=hn (aQ L (i+1) 5); omega
theorem yP:∀ (a b:List Tm),cH (a++b)=cH a+cH b
 | [],b=>by rw [List.nil_append,cH]; omega
 | x::a,b=>by rw [List.cons_append,cH,cH,yP a b]; omega
theorem NP (g:Nat→Tm×Nat) (K:Nat) (h:∀ j,(g j).1.wgt≤K):∀ (n s:Nat),cH (gF g n s).1≤n*K
 | 0,s=>by simp [gF,cH]
 | n+1,s=>by
   have h1:=NP g K h n s
   have h2:=h (gF g n s).2
   rw [gF,yP,Nat.succ_mul]
   simp only [cH]
   omega
theorem DH (L:List Int):∀ (d i:Nat),(eA L d i).1.wgt≤wbT d
 | 0,i=>DG L i
 | d+1,i=>by
   have hl:=DG L i
   have hl1:=DG L (i+1)
   have k:∀ (op:Int) (n s:Nat),n≤4→(DD (eA L d) op n s).1.wgt≤wbT (d+1):=fun op n s hn=>by
    have h1:=NP (eA L d) (wbT d) (fun j=>DH L d j) n s
    have h2:n*wbT d≤4*wbT d:=Nat.mul_le_mul_right _ hn
    simp only [DD,Tm.wgt,wbT,List.length_nil]
    omega
   have h3:=cT L (i+1+2) (n:=3) (by omega)
   have hw:wbT (d+1)=300+4*wbT d:=rfl
   rw [eA]
   split
   ·omega
   split
   ·omega
   unfold sW
   split
   ·split
    ·simp only [Tm.wgt,cH,List.length_nil]; omega
    ·have:=DH L d (i+1+2)
     simp only [Tm.wgt,cH,List.length_nil]; omega
   split
   ·exact k _ 1 _ (by omega)
   split
   ·exact k _ 3 _ (by omega)
   split
   ·exact k _ _ _ (by omega)
   ·exact k _ 2 _ (by omega)
theorem Sm.ctake' (e:Sm):List.take 13 e.c=e.c:=List.take_of_length_le (by simp [Sm.clen])
theorem Jo.ctake' (e:Jo):List.take 5 e.c=e.c:=List.take_of_length_le (by simp [Jo.clen])
theorem It.ctake' (e:It):List.take 7 e.c=e.c:=List.take_of_length_le (by simp [It.clen])
@[simp] theorem aPk (t:Sm) (l:List D):List.take 13 (t.c++l)=t.c:=by rw [List.take_append_of_le_length (by rw [Sm.clen]; omega)]; exact List.take_of_length_le (by rw [Sm.clen]; omega)
@[simp] theorem aPl (t:Sm) (l:List D):List.drop 13 (t.c++l)=l:=by rw [List.drop_append_of_le_length (by rw [Sm.clen]; omega),List.drop_of_length_le (by rw [Sm.clen]; omega)]; rfl
@[simp] theorem aOA (t:Sm):List.drop 13 (t.c.map AV.d)=[]:=List.drop_of_length_le (by simp [Sm.clen])
attribute [simp] Sm.clen Sm.ctake Sm.ctake' Sm.a aE aF
attribute [simp] wSelect wFrom rV gM wJoin yG wWhere iO RJ wHaving setW joiW
def iZ {α:Type} (en:α→AV) (fD:Nat→D) (T:List Tk) (r:cY α):Out:=match r with
 | .error p=>.pan (fD p)
 | .ok (x,m)=>.ret (en x) [dE T m]
structure RuleX {α:Type} (en:α→AV) (E:dA) (fD:Nat→D) (T:List Tk) (L:Nat) (f:FuncId) (p:List Tk→cY α):Prop where
 run:∀ l,At T l→l.length≤L→CfO E f [.ptr 1000000 0 0] [dE T l] (iZ en fD T (p l))
 sfx:∀ l,SfxOk (p l) l
 ok:∀ l t m,okE l→p l=.ok (t,m)→okE m
section
variable {α:Type} {en:α→AV} {E:dA} {fD:Nat→D} {T:List Tk} {L:Nat} {f:FuncId} {p:List Tk→cY α}
theorem RuleX.step (h:RuleX en E fD T L f p) {l:List Tk} (ha:At T l) (hl:l.length≤L) :
  (∃ e,p l=.error e∧CfX sC E f [.ptr 1000000 0 0] [dE T l] (.d (fD e)) (gN 1)) ∨
  (∃ t m,p l=.ok (t,m)∧At T m∧m.length≤l.length∧Cf E f [.ptr 1000000 0 0] [dE T l] (en t) [dE T m]):=by
 have h1:=h.run l ha hl
 cases hp:p l with
 | error e=>rw [hp] at h1; exact .inl ⟨e,rfl,h1⟩
 | ok x =>
   obtain ⟨t,m⟩:=x
   rw [hp] at h1
   exact .inr ⟨t,m,rfl,ha.to (h.sfx l t m hp) (h.ok l t m ha.ok hp),(h.sfx l t m hp).length_le,h1⟩
end
def So.a (s:So):AV:=jJ s.1 s.2.1 s.2.2
section
variable {fD:Nat→D} {T l:List Tk} {L:Nat} {st:List Tk→cY Sm}
theorem aFQ (hF:iN fD) (hs:RuleX Sm.a Es fD T L 44 st) (hT:T.length≤10000) (ha:At T l) (hl:l.length≤L+1) :
  CfO Es 158 [.ptr 1000000 0 0] [dE T l] (iZ So.a fD T (fF st l)):=by
 generalize ho:iZ So.a fD T (fF st l)=o
 unfold fF at ho
 refine eM bI (fn:=Tryz.f158) (by kernel_rfl) rfl (by kernel_rfl) (by decide) o (by simp) (by simp [dE]) ?_
 cases hw:isW bF l with
 | true =>
   rw [hw,if_pos rfl] at ho
   have hlen:=eF hw
   refine gs ?_
   refine hZ (dK ha hT hw) ?_
   refine gs ?_
   rcases hs.step (ha.tl hw) (by omega) with ⟨e,he,hc⟩ | ⟨x,l1,he,h1,hl1,hc⟩
   ·rw [he,bT] at ho
    subst ho
    exact pZ (hc)
   rw [he,bJ] at ho
   refine hZ (hc) ?_
   refine gs ?_
   rcases dX hF h1 hT [aY,rV] (by decide) with ⟨e,he2,hc2⟩ | ⟨l2,he2,h2,hl2,hc2⟩
   ·rw [he2] at ho
    subst ho
    exact pZ (hc2)
   rw [he2,dW] at ho
   refine hZ (hc2) ?_
   refine gs ?_
   rcases pG hF h2 hT with ⟨e,he3,hc3⟩ | ⟨n,l3,he3,h3,hl3,hc3⟩
   ·rw [he3,bT] at ho
    subst ho
    exact pZ (hc3)
   rw [he3,bJ] at ho
   subst ho
   refine hZ (hc3) ?_
   simp only [iZ]
   simp [So.a,jJ,kK] <;> exact gz
 | false =>
   rw [hw,if_neg (by simp)] at ho
   refine gs ?_
   refine hZ (eE ha hT hw) ?_
   refine gs ?_
   rcases pG hF ha hT with ⟨e,he3,hc3⟩ | ⟨n,l3,he3,h3,hl3,hc3⟩
   ·rw [he3,bT] at ho
    subst ho
    exact pZ (hc3)
   rw [he3,bJ] at ho
   refine hZ (hc3) ?_
   refine gs ?_
   unfold ZY at ho
   cases hw2:isW rV l3 with
   | true =>
     rw [hw2,if_pos rfl] at ho
     refine hZ (dK h3 hT hw2) ?_
     refine gs ?_
     rcases pG hF (h3.tl hw2) hT with ⟨e,he4,hc4⟩ | ⟨n4,l4,he4,h4,hl4,hc4⟩
     ·rw [he4,bT] at ho
      subst ho
      exact pZ (hc4)
     rw [he4,bJ] at ho
     subst ho
     refine hZ (hc4) ?_
     simp only [iZ]
     simp [So.a,jJ,kK] <;> exact gz
   | false =>
     rw [hw2,if_neg (by simp),bJ] at ho
     subst ho
     refine hZ (eE h3 hT hw2) ?_
     simp only [iZ]
     simp [So.a,jJ,kK] <;> exact gz
end
section
variable {tm:List Tk→cY Tm} {st:List Tk→cY Sm}
def itC (tm:List Tk→cY Tm) (is:List It) (l:List Tk):cY (List It):=gY tm l.length is l
def moC (tm:List Tk→cY Tm) (ks:List Tm) (l:List Tk):cY (List Tm):=fA tm l.length ks l
def joC (tm:List Tk→cY Tm) (st:List Tk→cY Sm) (js:List Jo) (l:List Tk):cY (List Jo):=fS tm st l.length js l
def stC (tm:List Tk→cY Tm) (st:List Tk→cY Sm) (x:Sm) (l:List Tk):cY Sm:=fW tm st l.length x l
variable (hT:∀ l,SfxOk (tm l) l) (hS:∀ l,SfxOk (st l) l)
include hT in
theorem IB:∀ (k m:Nat) (is:List It) (l:List Tk),l.length≤k→l.length≤m→gY tm k is l=gY tm m is l
 | 0,m,is,l,h,_=>by
   obtain rfl:l=[]:=List.length_eq_zero_iff.1 (by omega)
   cases m <;> rfl
 | k+1,0,is,l,_,h=>by
   obtain rfl:l=[]:=List.length_eq_zero_iff.1 (by omega)
   rfl
 | k+1,m+1,is,l,h,h'=>by
   rw [gY,gY]
   split
   ·rename_i hw
    have hlen:=eF hw
    exact AD rfl (oB hT l.tail) fun i l' hl=>IB k m _ l' (by omega) (by omega)
   ·rfl
include hT in
theorem aKE (is:List It) (l:List Tk):itC tm is l=if isW bQ l=true then aR (pV tm l.tail) fun i l'=>itC tm (is++[i]) l' else .ok (is,l):=by
 unfold itC
 rw [IB hT l.length (l.length+1) is l (Nat.le_refl _) (by omega),gY]
 split
 ·rename_i hw
  have hlen:=eF hw
  exact AD rfl (oB hT l.tail) fun i l' hl=>IB hT _ _ _ l' (by omega) (Nat.le_refl _)
 ·rfl
include hT in
theorem PQ:∀ (k m:Nat) (is:List Tm) (l:List Tk),l.length≤k→l.length≤m→fA tm k is l=fA tm m is l
 | 0,m,is,l,h,_=>by
   obtain rfl:l=[]:=List.length_eq_zero_iff.1 (by omega)
   cases m <;> rfl
 | k+1,0,is,l,_,h=>by
   obtain rfl:l=[]:=List.length_eq_zero_iff.1 (by omega)
   rfl
 | k+1,m+1,is,l,h,h'=>by
   rw [fA,fA]
   split
   ·rename_i hw
    have hlen:=eF hw
    exact AD rfl (hT l.tail) fun i l' hl=>PQ k m _ l' (by omega) (by omega)
   ·rfl
include hT in
theorem aKF (is:List Tm) (l:List Tk):moC tm is l=if isW bQ l=true then aR (tm l.tail) fun i l'=>moC tm (is++[i]) l' else .ok (is,l):=by
 unfold moC
 rw [PQ hT l.length (l.length+1) is l (Nat.le_refl _) (by omega),fA]
 split
 ·rename_i hw
  have hlen:=eF hw
  exact AD rfl (hT l.tail) fun i l' hl=>PQ hT _ _ _ l' (by omega) (Nat.le_refl _)
 ·rfl
theorem aAY (hT:∀ l,SfxOk (tm l) l) (hS:∀ l,SfxOk (st l) l) {k:Nat} {l m:List Tk} {j:Jo} (h:lC tm st k l=.ok (j,m)):m.length<l.length:=by
 unfold lC at h
 cases hw:isW wJoin l with
 | false =>
   have e:cQ [wJoin] l=.error (lN l):=by rw [cQ,hw,if_neg (by simp)]
   rw [e] at h; cases h
 | true =>
   have hlen:=eF hw
   have e:cQ [wJoin] l=.ok l.tail:=by rw [cQ,hw,if_pos rfl]; rfl
   rw [e] at h
   have hs:SfxOk (cR (.ok l.tail) fun l1=>aR (fF st l1) fun s l2 =>
    if 6<k then .ok (Jo.mk 0 s.1 s.2.1 s.2.2 [],l2) else cR (cQ [yG] l2) fun l3=>aR (tm l3) fun t l4=>.ok (.mk (max k 1:Nat) s.1 s.2.1 s.2.2 [t],l4)) l.tail:=by
    refine gS (kI hS l.tail) fun s l2 _=>?_
    split
    ·exact .ok (List.suffix_refl _)
    ·exact rR fun l3=>gS (hT l3) fun t l4 _=>.ok (List.suffix_refl _)
   have:=(hs _ _ h).length_le
   omega
include hT hS in
theorem vE:∀ (k m:Nat) (js:List Jo) (l:List Tk),l.length≤k→l.length≤m→fS tm st k js l=fS tm st m js l
 | 0,m,js,l,h,_=>by
   obtain rfl:l=[]:=List.length_eq_zero_iff.1 (by omega)
   cases m with
   | zero=>rfl
   | succ m=>rw [fS,fS,mL]; rfl
 | k+1,0,js,l,_,h=>by
   obtain rfl:l=[]:=List.length_eq_zero_iff.1 (by omega)
   rw [fS,fS,mL]; rfl
 | k+1,m+1,js,l,h,h'=>by
   rw [fS,fS]
   split
   ·rename_i i ho
    have hlen:=lI ho
    exact AD rfl (oC hT hS _ l.tail) fun i l' hl=>vE k m _ l' (by omega) (by omega)
   ·split
    ·cases hj:lC tm st 0 l with
     | error e=>rfl
     | ok x =>
       obtain ⟨j,l'⟩:=x
       have:=aAY hT hS hj
       exact vE k m _ l' (by omega) (by omega)
    ·rfl
include hT hS in
theorem aKG (js:List Jo) (l:List Tk):joC tm st js l=match bN joiW l with
  | some i=>aR (lC tm st (i+1) l.tail) fun j l'=>joC tm st (js++[j]) l'
  | none=>if isW wJoin l=true then aR (lC tm st 0 l) fun j l'=>joC tm st (js++[j]) l' else .ok (js,l):=by
 unfold joC
 rw [vE hT hS l.length (l.length+1) js l (Nat.le_refl _) (by omega),fS]
 cases ho:bN joiW l with
 | some i =>
   have hlen:=lI ho
   exact AD rfl (oC hT hS _ l.tail) fun i l' hl=>vE hT hS _ _ _ l' (by omega) (Nat.le_refl _)
 | none =>
   simp only
   split
   ·cases hj:lC tm st 0 l with
    | error e=>rfl
    | ok x =>
      obtain ⟨j,l'⟩:=x
      have:=aAY hT hS hj
      exact vE hT hS _ _ _ l' (by omega) (Nat.le_refl _)
   ·rfl
include hT hS in
theorem PR:∀ (k m:Nat) (x:Sm) (l:List Tk),l.length≤k→l.length≤m→fW tm st k x l=fW tm st m x l
 | 0,m,x,l,h,_=>by
   obtain rfl:l=[]:=List.length_eq_zero_iff.1 (by omega)
   cases m with
   | zero=>rfl
   | succ m=>rw [fW,fW,mL]
 | k+1,0,x,l,_,h=>by
   obtain rfl:l=[]:=List.length_eq_zero_iff.1 (by omega)
   rw [fW,fW,mL]
 | k+1,m+1,x,l,h,h'=>by
   rw [fW,fW]
   split
   ·rfl
   ·rename_i i ho
    have hlen:=lI ho
    have h2:=nP gM l.tail
    exact AD rfl (lD hT hS _) fun i l' hl=>PR k m _ l' (by omega) (by omega)
include hT hS in
theorem aKH (x:Sm) (l:List Tk):stC tm st x l=match bN setW l with
  | none=>.ok (x,l)
  | some i=>aR (jQ tm st (fB gM l.tail).2) fun y l'=>stC tm st (uI i (fB gM l.tail).1 x y) l':=by
 unfold stC
 rw [PR hT hS l.length (l.length+1) x l (Nat.le_refl _) (by omega),fW]
 cases ho:bN setW l with
 | none=>rfl
 | some i =>
   have hlen:=lI ho
   have h2:=nP gM l.tail
   exact AD rfl (lD hT hS _) fun i l' hl=>PR hT hS _ _ _ l' (by omega) (Nat.le_refl _)
end
def aKz (p q:List Tk→cY Tm) (l:List Tk):cY Tm:=aR (p l) fun a l'=>match bN cmpW l' with
    | some i=>tP (fun b=>cD (14+i) [a,b]) (p l'.tail)
    | none =>
      if isW wIs l'=true then
       if isW wNull l'.tail=true then .ok (cD 21 [a],l'.tail.tail)
       else if isW wTrue l'.tail=true then .ok (cD 25 [a],l'.tail.tail)
       else cR (cQ [wNot,wNull] l'.tail) fun l2=>.ok (cD 24 [cD 21 [a]],l2)
      else if isW wIn l'=true then
       cR (cQ [bF] l'.tail) fun l2=>aR (q l2) fun b l3=>aR (fA q l3.length [a,b] l3) fun ks l4=>cR (cQ [aY] l4) fun l5=>.ok (cD 28 ks,l5)
      else .ok (a,l')
section
variable {fD:Nat→D} {T l:List Tk} {L:Nat} {p q:List Tk→cY Tm}
theorem PO (hF:iN fD) (hp:Rule Es fD T (L+1) 178 p) (hq:Rule Es fD T L 31 q) (hT:T.length≤10000) (ha:At T l) (hl:l.length≤L+1) :
  CfO Es 143 [.ptr 1000000 0 0] [dE T l] (eZ fD T (aKz p q l)):=by
 generalize ho:eZ fD T (aKz p q l)=o
 unfold aKz at ho
 refine eM bI (fn:=Tryz.f143) (by kernel_rfl) rfl (by kernel_rfl) (by decide) o (by simp) (by simp [dE]) ?_
 refine gs ?_
 rcases hp.step ha hl with ⟨e,he,hc⟩ | ⟨a,l1,he,h1,hl1,hc⟩
 ·rw [he,bT] at ho
  subst ho
  exact pZ (hc)
 rw [he,bJ] at ho
 refine hZ (hc) ?_
 refine gs ?_
 cases hi:bN cmpW l1 with
 | some i =>
   rw [hi] at ho
   simp only at ho
   have hlen:=lI hi
   have hil:i<7:=by
    unfold bN at hi
    exact (List.findIdx?_eq_some_iff_getElem.1 hi).1
   have hwr:=wI (n:=14+(i:Int))
   refine hZ (zZ h1 hT (by decide) hi) ?_
   simp [hwr]
   refine gw ?_
   rcases hp.step (h1.tl1 hi) (by omega) with ⟨e,he2,hc2⟩ | ⟨b,l2,he2,h2,hl2,hc2⟩
   ·rw [he2] at ho
    subst ho
    exact pZ (hc2)
   rw [he2] at ho
   subst ho
   refine hZ (hc2) ?_
   refine gs ?_
   refine aC (aA (iQ (gL (14+i) [a,b])) (by simp) ?_)
   simp only [tP,aR,eZ]
   exact gq
 | none =>
   rw [hi] at ho
   simp only at ho
   refine hZ (HZ h1 hT (by decide) hi) ?_
   refine gs ?_
   cases hs:isW wIs l1 with
   | true =>
     rw [hs,if_pos rfl] at ho
     have h2:=h1.tl hs
     refine hZ (dK h1 hT hs) ?_
     refine gs ?_
     cases hn:isW wNull l1.tail with
     | true =>
       rw [hn,if_pos rfl] at ho
       subst ho
       refine hZ (dK h2 hT hn) ?_
       refine gs ?_
       refine aC (aA (iQ (gL 21 [a])) (by simp) ?_)
       simp only [eZ]
       exact gq
     | false =>
       rw [hn,if_neg (by simp)] at ho
       refine hZ (eE h2 hT hn) ?_
       refine gs ?_
       cases ht:isW wTrue l1.tail with
       | true =>
         rw [ht,if_pos rfl] at ho
         subst ho
         refine hZ (dK h2 hT ht) ?_
         refine gs ?_
         refine aC (aA (iQ (gL 25 [a])) (by simp) ?_)
         simp only [eZ]
         exact gq
       | false =>
         rw [ht,if_neg (by simp)] at ho
         refine hZ (eE h2 hT ht) ?_
         refine gs ?_
         rcases dX hF h2 hT [wNot,wNull] (by decide) with ⟨e,he3,hc3⟩ | ⟨l4,he3,h4,hl4,hc3⟩
         ·rw [he3] at ho
          subst ho
          exact pZ (hc3)
         rw [he3,dW] at ho
         subst ho
         refine hZ (hc3) ?_
         refine gs ?_
         refine aC (aA (iQ (gL 21 [a])) (by simp) ?_)
         refine gs ?_
         refine aC (aA (iQ (gL 24 [cD 21 [a]])) (by simp) ?_)
         simp only [eZ]
         exact gq
   | false =>
     rw [hs,if_neg (by simp)] at ho
     refine hZ (eE h1 hT hs) ?_
     refine gs ?_
     cases hn:isW wIn l1 with
     | false =>
       rw [hn,if_neg (by simp)] at ho
       subst ho
       refine hZ (eE h1 hT hn) ?_
       simp only [eZ]
       exact gq
     | true =>
       rw [hn,if_pos rfl] at ho
       have hlen:=eF hn
       refine hZ (dK h1 hT hn) ?_
       refine gs ?_
       rcases dX hF (h1.tl hn) hT [bF] (by decide) with ⟨e,he3,hc3⟩ | ⟨l2,he3,h2,hl2,hc3⟩
       ·rw [he3] at ho
        subst ho
        exact pZ (hc3)
       rw [he3,dW] at ho
       refine hZ (hc3) ?_
       refine gs ?_
       rcases hq.step h2 (by omega) with ⟨e,he4,hc4⟩ | ⟨b,l3,he4,h3,hl3,hc4⟩
       ·rw [he4,bT] at ho
        subst ho
        exact pZ (hc4)
       rw [he4,bJ] at ho
       refine hZ (hc4) ?_
       refine gs ?_
       have hTl:=ha.sfx.length_le
       refine iR bI (by decide) (fun y:List Tm×List Tk=>{ s:=eP [(0,.ptr 1000000 0 0),(2,.ptr 2 0 0),(3,.ptr 3 0 0),(5,.ref 900 0 y.1.length 6)],b:=eG [(1000000,1000000,dE T y.2),(2,2,.var zTm),(3,3,.var (a.c.map AV.d)),(900,900,.arr 25 6 (y.1.map Tm.c) false)] })
        (fun y=>At T y.2∧y.2.length≤L∧y.1.length+y.2.length≤10002∧∃ k,y.2.length≤k∧eZ fD T (aR (fA q k y.1 y.2) fun ks l4=>cR (cQ [aY] l4) fun l5=>.ok (cD 28 ks,l5))=o) (fun y=>y.2.length) ([a,b],l3) ⟨h3,by simp only; omega,by simp; omega,_,Nat.le_refl _,ho⟩
        (sZ _ [(2,2,_),(3,3,_),(900,52,_)] (by simp [aD,Blk.live]) (by simp [aD])) ?_
       rintro ⟨ks,l5⟩ ⟨h5,hl5,hk2,k,hk,ho3⟩
       simp only at h5 hl5 hk hk2 ho3
       cases hcm:isW bQ l5 with
       | true =>
         have hlen5:=eF hcm
         obtain ⟨k,rfl⟩:∃ z,k=z+1:=⟨k - 1,by omega⟩
         rw [fA,hcm,if_pos rfl] at ho3
         refine gs ?_
         refine hZ (dK h5 hT hcm) ?_
         refine gs ?_
         rcases hq.step (h5.tl hcm) (by omega) with ⟨e,he6,hc6⟩ | ⟨t6,l6,he6,h6,hl6,hc6⟩
         ·rw [he6,bT,bT] at ho3
          subst ho3
          exact pZ (hc6)
         rw [he6,bJ] at ho3
         have hb:(ks.length+1)*80≤140737488355328∧ks.length≤9223372036854775806:=by omega
         refine hZ (hc6) ?_
         simp [hb]
         refine gw ?_
         refine ⟨(ks++[t6],l6),⟨h6,by simp only; omega,by simp; omega,k,by simp only; omega,ho3⟩,?_,by simp only; omega⟩
         exact sZ _ [(2,2,_),(3,3,_),(900,59,_)] (by simp [aD,Blk.live]) (by simp [aD])
       | false =>
         have hmr:fA q k ks l5=.ok (ks,l5):=by
          cases k with
          | zero=>rfl
          | succ k=>rw [fA,hcm,if_neg (by simp)]
         rw [hmr,bJ] at ho3
         refine gs ?_
         refine hZ (eE h5 hT hcm) ?_
         refine gs ?_
         rcases dX hF h5 hT [aY] (by decide) with ⟨e,he7,hc7⟩ | ⟨l7,he7,h7,hl7,hc7⟩
         ·rw [he7] at ho3
          subst ho3
          exact pZ (hc7)
         rw [he7,dW] at ho3
         subst ho3
         refine hZ (hc7) ?_
         refine gs ?_
         refine aC (aA (iQ (gL 28 ks)) (by simp) ?_)
         simp only [eZ]
         exact gq
end
def fnL:Nat→FuncId
 | 0=>31
 | 1=>64
 | 2=>101
 | 3=>143
 | 4=>178
 | 5=>195
 | 6=>205
 | _=>213
theorem aFx {n:Nat} {T l:List Tk} (ha:At T l) (hn:oM l=true):bA (n+1) 7 l=.ok (.mk 2 0 (eU l).n [] [] [],l.tail):=by
 cases l with
 | nil=>exact absurd rfl ha.ne
 | cons t r =>
   have hk:t.kd=2:=by simp [oM] at hn; exact hn.1
   show (if t.kd=2 then _ else _)=_
   rw [if_pos hk]
   rfl
theorem aJP {fD:Nat→D} (hF:iN fD) {T:List Tk} (hV:okT T) (hT:T.length≤10000):∀ (n lvl:Nat) (l:List Tk),lvl≤7→At T l→vG lvl l≤n→CfO Es (fnL lvl) [.ptr 1000000 0 0] [dE T l] (eZ fD T (bA n lvl l))
 | 0,lvl,l,hv,ha,hn=>by
   have:=List.length_pos_iff.2 ha.ne
   unfold vG at hn
   omega
 | n+1,lvl,l,hv,ha,hn=>by
   have hpos:=List.length_pos_iff.2 ha.ne
   have rl:∀ (k L:Nat),k≤7→9*L+8 - k≤n→Rule Es fD T L (fnL k) (bA n k):=fun k L hk hL =>
    ⟨fun l' ha' hl'=>aJP hF hV hT n k l' hk ha' (by unfold vG; omega),fun l'=>aV n k l',fun l' t m ho hp=>aBn n k ho hp⟩
   unfold vG at hn
   match lvl,hv,hn with
   | 0,_,hn=>rw [bA]; exact aKL (rl 1 l.length (by omega) (by omega)) hT ha (Nat.le_refl _)
   | 1,_,hn=>rw [bA]; exact aMM (rl 2 l.length (by omega) (by omega)) hT ha (Nat.le_refl _)
   | 2,_,hn=>rw [bA]; exact aMO (L:=l.length - 1) (rl 2 _ (by omega) (by omega)) (rl 3 _ (by omega) (by omega)) hT ha (by omega)
   | 3,_,hn=>rw [bA]; exact PO (L:=l.length - 1) hF (rl 4 _ (by omega) (by omega)) (rl 0 _ (by omega) (by omega)) hT ha (by omega)
   | 4,_,hn=>rw [bA]; exact aMN (rl 5 l.length (by omega) (by omega)) hT ha (Nat.le_refl _)
   | 5,_,hn=>rw [bA]; exact aDq (rl 6 l.length (by omega) (by omega)) hT ha (Nat.le_refl _)
   | 6,_,hn =>
     rw [bA]
     obtain ⟨k,rfl⟩:∃ k,n=k+1:=⟨n - 1,by omega⟩
     exact aJi (L:=l.length - 1) (rl 6 _ (by omega) (by omega)) (rl 7 _ (by omega) (by omega)) (fun l' ha' _ hn'=>aFx ha' hn') hT ha (by omega)
   | 7,_,hn =>
     have e:bA (n+1) 7 l=aDs (bA n 0) l:=by cases l <;> rfl
     rw [e]
     cases l with
     | nil=>exact absurd rfl ha.ne
     | cons t r =>
       have hlen:(t::r).length=r.length+1:=rfl
       by_cases k2:t.kd=2
       ·rw [aDs,if_pos k2]
        exact ZW hV hT ha k2
       by_cases k3:t.kd=3
       ·rw [aDs,if_neg k2,if_pos k3]
        exact ZX hV hT ha k3
       exact UX hF (rl 0 r.length (by omega) (by omega)) hT ha (Nat.le_refl _) k2 k3
   | k+8,hv,_=>omega
end Go.Proofs.Tryz
namespace Go.Proofs.YthpmjipkofbeiaaGreatDoor
open Go.ChangeShapes Go.WideShapes Go.ChangeAt Go.RowKit Go.Ab Go.Proofs.Tryz
set_option maxRecDepth 100000
theorem VS {μ:Nat→Nat→Option Value}:∀ {vs:List Value} {cs:List D},rZ μ vs cs→∀ (j:Nat) (c:D),cs[j]?=some c→∃ v,vs[j]?=some v∧aU μ v c
 | [],[],_,j,c,h=>by simp at h
 | v::vs,c0::cs,h,0,c,e=>by
   cases e
   exact ⟨v,rfl,h.1⟩
 | v::vs,c0::cs,h,j+1,c,e=>by simpa using VS h.2 j c (by simpa using e)
theorem aBz {μ:Nat→Nat→Option Value} {L:Nat→Option Go.Ab.Loc}:∀ {vs:List Value} {cs:List D},rZ μ vs cs→bB ⟨μ,L⟩ vs (cs.map AV.d)
 | [],[],_=>by simp [bB]
 | v::vs,c::cs,h=>by
   rw [List.map_cons,bB]
   refine ⟨v,vs,rfl,?_,aBz h.2⟩
   simp only [aG]
   exact h.1
theorem aBA {w:World} {a:Addr} {len cap sz:Nat} {α:Type} (f:α→List D) (R:Nat→α→Prop) (hl:len≤cap) (hsz:∀ u,(f u).length=sz) (hsz0:0<sz)
  (hi:∀ i,i<len→∃ u:α,R i u∧∀ (j:Nat) (c:D),(f u)[j]?=some c→∃ v,w.cell? (a.add (i*sz+j))=some v∧aU (iH w) v c) :
  ∃ l:List α,l.length=len∧(∀ i u,l[i]?=some u→R i u)∧aU (iH w) (.slice (some a) len cap) (.sl (l.map f)):=by
 obtain ⟨l,h1,h2⟩:=DW hi
 refine ⟨l,h1,fun i u e=>(h2 i u e).1,?_⟩
 simp only [aU]
 refine ⟨some a,cap,by simp [h1],by simp [h1]; exact hl,?_⟩
 by_cases h0:l=[]
 ·left; simp [h0]
 ·right
  have hpos:0<l.length:=List.length_pos_iff.2 h0
  have hsp:a.spot=none:=by
   have hg:l[0]?=some l[0]:=gE hpos
   obtain ⟨v,hv,_⟩:=(h2 0 _ hg).2 0 _ (gE (by rw [hsz]; exact hsz0))
   have:=MG hv
   simpa [Addr.add] using this
  obtain ⟨b,o,sp⟩:=a
  simp only at hsp
  subst hsp
  refine ⟨b,o,sz,rfl,gW.2 fun i x hx=>?_⟩
  rw [List.getElem?_map] at hx
  cases hg:l[i]? with
  | none=>rw [hg] at hx; cases hx
  | some u =>
    rw [hg] at hx
    simp only [Option.map_some,Option.some.injEq] at hx
    subst hx
    refine ⟨hsz u,iG.2 fun j c hc=>?_⟩
    obtain ⟨v,hv,hr⟩:=(h2 i u hg).2 j c hc
    refine ⟨v,?_,hr⟩
    simp only [iH,Addr.add] at hv ⊢
    rw [Nat.add_assoc]
    split at hv
    ·rename_i e0; rw [e0]; exact hv
    ·exact hv
def rT {α:Type} (wt:α→Nat):List α→Nat
 | []=>0
 | u::l=>wt u+rT wt l
theorem NH {α H:Type} {wt:α→Nat}:∀ (l:List α) (ds:List (DataW H)),l.length=ds.length→(∀ (i:Nat) (e:α) (d:DataW H),l[i]?=some e→ds[i]?=some d→wt e≤60*Rows.uptoBulk d)→rT wt l≤60*Rows.uptoBulkAll ds
 | [],_,_,_=>by rw [rT]; omega
 | e::es,[],h,_=>by cases h
 | e::es,d::ds,h,hb=>by
   have h1:=hb 0 e d rfl rfl
   have h2:=NH es ds (by simpa using h) fun i x y hx hy=>hb (i+1) x y (by simpa using hx) (by simpa using hy)
   rw [rT,Rows.uptoBulkAll]
   omega
theorem iJ {α H:Type} {enc:TypeId×Value→H} {W:World} {base:Nat} {spare:Nat→Bool} {held:Bool} (f:α→List D) (Pr:α→Prop) (wt:α→Nat) {sz e t n:Nat} {c:Value} {x:DataW H×List MemPlace}
  (hu:Tryz.prog.underlying t=some (.slice e)) (hcs:Tryz.prog.cellsOf e=sz) (hf:∀ u,(f u).length=sz) (h0:0<sz) (h:DataW.trod enc Tryz.prog W base spare held n t [c]=some x)
  (elem:∀ n2,n2<n→∀ cs y,DataW.trod enc Tryz.prog W base spare held n2 e cs=some y→cs.length=sz→∃ u,Pr u∧wt u≤60*Rows.uptoBulk y.1∧rZ (iH W) cs (f u)) :
  ∃ l:List α,l.length≤9223372036854775807∧(∀ u∈l,Pr u)∧rT wt l+60≤60*Rows.uptoBulk x.1∧aU (iH W) c (.sl (l.map f)):=by
 rcases DataW.trod_slice (e:=e) hu h with ⟨hc,hx⟩ | ⟨a,len,cap,elems,rest,n2,hn2,hc,hx,_,hlc,hcm,hel,hi,_,_⟩
 ·simp only [List.cons.injEq,and_true] at hc
  subst hc
  exact ⟨[],by simp,by simp,by rw [hx]; simp [rT,Rows.uptoBulk],by simp only [aU]; exact ⟨none,0,rfl,Nat.le_refl _,.inl rfl⟩⟩
 ·simp only [List.cons.injEq,and_true] at hc
  subst hc
  obtain ⟨l,hll,hR,hr⟩:=aBA (w:=W) (a:=a) (len:=len) (cap:=cap) (sz:=sz) (α:=α) f (fun i u=>Pr u∧∀ d,elems[i]?=some d→wt u≤60*Rows.uptoBulk d.1) hlc hf h0 fun i hlt=>by
   have hi':=hi i hlt
   have hg:elems[i]?=some (elems[i]'(by omega)):=gE _
   rw [hg] at hi'
   rw [Option.bind_eq_some_iff] at hi'
   obtain ⟨cs,hcs',ht⟩:=hi'
   rw [hcs] at hcs'
   obtain ⟨_,hcl,hat⟩:=World.cells?_some hcs'
   obtain ⟨u,hu,hw,hr⟩:=elem n2 (by omega) cs _ ht hcl
   refine ⟨u,⟨hu,fun d hd=>by rw [hg,Option.some.injEq] at hd; subst hd; exact hw⟩,fun j c hj=>?_⟩
   obtain ⟨v,hv,hr⟩:=VS hr j c hj
   refine ⟨v,?_,hr⟩
   have hj6:j<sz:=by have:=(List.getElem?_eq_some_iff.1 hj).1; rw [hf] at this; exact this
   rw [← Go.Deep.add_add,hat j hj6,hv]
  refine ⟨l,?_,fun u hu=>?_,?_,hr⟩
  ·simp only [maxLen] at hcm
   omega
  ·obtain ⟨i,hi⟩:=List.mem_iff_getElem?.1 hu
   exact (hR i u hi).1
  ·have h1:=NH (wt:=wt) l (elems.map (·.1)) (by rw [List.length_map]; omega) fun i e d hx hy=>by
    rw [List.getElem?_map,Option.map_eq_some_iff] at hy
    obtain ⟨d0,hd0,rfl⟩:=hy
    exact (hR i e hx).2 d0 hd0
   rw [hx]
   simp only [Rows.uptoBulk]
   omega
theorem vQ {H:Type} {enc:TypeId×Value→H} {W:World} {base:Nat} {spare:Nat→Bool} {held:Bool} {n t:Nat} {c:Value} {x:DataW H×List MemPlace} (hu:Tryz.prog.underlying t=some (.int .i64)) (h:DataW.trod enc Tryz.prog W base spare held n t [c]=some x) :
  ∃ k:Int,c=.int .i64 k:=by
 obtain ⟨k,e,_,_⟩:=DataW.trod_int (k:=.i64) hu h
 simp only [List.cons.injEq,and_true] at e
 exact ⟨k,e⟩
theorem sR {H:Type} {enc:TypeId×Value→H} {W:World} {base:Nat} {spare:Nat→Bool} {held:Bool} {n t:Nat} {c:Value} {x:DataW H×List MemPlace} (hu:Tryz.prog.underlying t=some .string) (h:DataW.trod enc Tryz.prog W base spare held n t [c]=some x) :
  ∃ s:List UInt8,s.length+1≤Rows.uptoBulk x.1∧aU (iH W) c (.str s):=by
 obtain ⟨k,e,hx,_⟩:=DataW.trod_string hu h
 simp only [List.cons.injEq,and_true] at e
 subst e
 exact ⟨k.data.toList,by rw [hx]; simp [Rows.uptoBulk],by simp [aU]⟩
theorem DA {H:Type} {enc:TypeId×Value→H} {W:World} {base:Nat} {spare:Nat→Bool} {held:Bool} {n t:Nat} {c:Value} {x:DataW H×List MemPlace} (hu:Tryz.prog.underlying t=some .bool) (h:DataW.trod enc Tryz.prog W base spare held n t [c]=some x) :
  ∃ b:Bool,c=.bool b:=by
 obtain ⟨k,e,_,_⟩:=DataW.trod_bool hu h
 simp only [List.cons.injEq,and_true] at e
 exact ⟨k,e⟩
theorem lO:∀ l:List Tm,(∀ e∈l,e.fits)→cC l
 | [],_=>by rw [cC]; trivial
 | e::es,h=>by rw [cC]; exact ⟨h e List.mem_cons_self,lO es fun x hx=>h x (List.mem_cons_of_mem _ hx)⟩
theorem FR:∀ l:List Tm,rT Tm.wgt l=cH l
 | []=>rfl
 | e::es=>by rw [rT,cH,FR es]
theorem aBm {t:Nat} (h:(Tryz.prog.cellsOf t==1)=true):Tryz.prog.cellsOf t=1:=by simpa using h
theorem wY:Tryz.prog.cellsOf 25=6:=by
 have:(Tryz.prog.cellsOf 25==6)=true:=by kernel_rfl
 simpa using this
theorem sS {H:Type}:∀ (ys:List (DataW H×List MemPlace)),Rows.uptoBulkAll (ys.map (·.1))=rT (fun y=>Rows.uptoBulk y.1) ys
 | []=>rfl
 | y::ys=>by rw [List.map_cons,Rows.uptoBulkAll,rT,sS ys]
theorem vR {H:Type} {enc:TypeId×Value→H} {W:World} {base:Nat} {spare:Nat→Bool} {held:Bool}:∀ (n:Nat) (cs:List Value) (x:DataW H×List MemPlace),DataW.trod enc Tryz.prog W base spare held n 25 cs=some x→cs.length=6 →
  ∃ e:Tm,e.fits∧e.wgt≤60*Rows.uptoBulk x.1∧rZ (iH W) cs e.c:=by
 intro n
 induction n using Nat.strongRecOn with
 | _ n ih =>
 intro cs x h hc
 obtain ⟨c0,c1,c2,c3,c4,c5,rfl⟩:∃ c0 c1 c2 c3 c4 c5,cs=[c0,c1,c2,c3,c4,c5]:=by
  match cs,hc with
  | [c0,c1,c2,c3,c4,c5],_=>exact ⟨c0,c1,c2,c3,c4,c5,rfl⟩
 obtain ⟨ys,n',hn',hx,_,hyl,hf⟩:=DataW.trod_struct Tryz.underlying25 h
 have hl:ys.length=6:=hyl
 obtain ⟨y0,y1,y2,y3,y4,y5,rfl⟩:∃ y0 y1 y2 y3 y4 y5,ys=[y0,y1,y2,y3,y4,y5]:=by
  match ys,hl with
  | [y0,y1,y2,y3,y4,y5],_=>exact ⟨y0,y1,y2,y3,y4,y5,rfl⟩
 have h0:DataW.trod enc Tryz.prog W base spare held n' 3 (([c0,c1,c2,c3,c4,c5].drop 0).take (Tryz.prog.cellsOf 3))=some y0:=hf 0 _ rfl
 have h1:DataW.trod enc Tryz.prog W base spare held n' 3 (([c0,c1,c2,c3,c4,c5].drop 1).take (Tryz.prog.cellsOf 3))=some y1:=hf 1 _ rfl
 have h2:DataW.trod enc Tryz.prog W base spare held n' 2 (([c0,c1,c2,c3,c4,c5].drop 2).take (Tryz.prog.cellsOf 2))=some y2:=hf 2 _ rfl
 have h3:DataW.trod enc Tryz.prog W base spare held n' 9 (([c0,c1,c2,c3,c4,c5].drop 3).take (Tryz.prog.cellsOf 9))=some y3:=hf 3 _ rfl
 have h4:DataW.trod enc Tryz.prog W base spare held n' 9 (([c0,c1,c2,c3,c4,c5].drop 4).take (Tryz.prog.cellsOf 9))=some y4:=hf 4 _ rfl
 have h5:DataW.trod enc Tryz.prog W base spare held n' 23 (([c0,c1,c2,c3,c4,c5].drop 5).take (Tryz.prog.cellsOf 23))=some y5:=hf 5 _ rfl
 simp only [aBm (t:=3) (by kernel_rfl),aBm (t:=2) (by kernel_rfl),aBm (t:=9) (by kernel_rfl),aBm (t:=23) (by kernel_rfl),List.drop_zero,List.drop_succ_cons,List.take_succ_cons,List.take_zero] at h0 h1 h2 h3 h4 h5
 obtain ⟨a0,rfl⟩:=vQ (by kernel_rfl) h0
 obtain ⟨a1,rfl⟩:=vQ (by kernel_rfl) h1
 obtain ⟨a2,rfl⟩:=vQ (by kernel_rfl) h2
 obtain ⟨a3,b3,r3⟩:=sR (by kernel_rfl) h3
 obtain ⟨a4,b4,r4⟩:=sR (by kernel_rfl) h4
 obtain ⟨l,l1,l2,l3,r5⟩:=iJ Tm.c Tm.fits Tm.wgt (by kernel_rfl) wY Tm.clen (by decide) h5 fun n2 hn2 cs y ht hcl=>ih n2 (by omega) cs y ht hcl
 refine ⟨.mk a0 a1 a2 a3 a4 l,by rw [Tm.fits]; exact ⟨l1,lO l l2⟩,?_,?_⟩
 ·rw [FR] at l3
  rw [hx,Tm.wgt]
  simp only [Rows.uptoBulk,sS,rT]
  omega
 ·rw [Tm.c,aS]
  exact ⟨by simp only [aU],by simp only [aU],by simp only [aU],r3,r4,r5,trivial⟩
end Go.Proofs.YthpmjipkofbeiaaGreatDoor
