import Derived.Test.YthpmjipkofbeiaaGreatDoorUTpn
import Derived.Test.YthpmjipkofbeiaaGreatDoorLif
import Derived.Test.YthpmjipkofbeiaaGreatDoorVpp
set_option linter.all false
namespace Go.Proofs.Tryz
open Go.Ab
set_option maxRecDepth 100000
set_option maxHeartbeats 8000000
def iK {α:Type} (p:α→Bool) (l:List α):Int:=match l.findIdx? fun x=>!p x with
 | some i=>i
 | none=>-1
theorem oZ {α:Type} (p:α→Bool) (l:List α):decide (0≤iK p l)=!l.all p:=by
 unfold iK
 cases hf:l.findIdx? fun x=>!p x with
 | none =>
   rw [List.findIdx?_eq_none_iff] at hf
   have:l.all p=true:=List.all_eq_true.2 fun x hx=>by simpa using hf x hx
   simp [this]
 | some i =>
   rw [List.findIdx?_eq_some_iff_getElem] at hf
   obtain ⟨hi,hx,_⟩:=hf
   have:l.all p=false:=by
    rw [List.all_eq_false]
    exact ⟨_,List.getElem_mem hi,by simpa using hx⟩
   simp [this]
theorem nS {α:Type} {p:α→Bool} {l:List α} {i:Nat} {x:α} (h:l[i]?=some x) (hx:p x=false) (ho:∀ j (y:α),j<i→l[j]?=some y→p y=true):iK p l=i:=by
 obtain ⟨hi,rfl⟩:=List.getElem?_eq_some_iff.1 h
 unfold iK
 have:(l.findIdx? fun x=>!p x)=some i:=by
  rw [List.findIdx?_eq_some_iff_getElem]
  exact ⟨hi,by simp [hx],fun j hj=>by simp [ho j l[j] hj (gE (by omega))]⟩
 rw [this]
theorem nT {α:Type} {p:α→Bool} {l:List α} (ho:∀ j (y:α),j<l.length→l[j]?=some y→p y=true):iK p l=-1:=by
 unfold iK
 have:(l.findIdx? fun x=>!p x)=none:=by
  rw [List.findIdx?_eq_none_iff]
  intro x hx
  obtain ⟨j,hj,rfl⟩:=List.getElem_of_mem hx
  simp [ho j _ hj (gE hj)]
 rw [this]
theorem aNy (F:FuncId) (p:Tm→Bool) (x:Tm) (h:Cf Es F [x.a] [] (.d (.bool (p x))) []):Cf Es 122 [x.a,.ptr aB 0 0] [.var [.clo F []]] (.d (.bool (!p x))) [.var [.clo F []]]:=by
 refine cI bI (fn:=Tryz.f122) rfl ?_
 have c1:=x.clen
 have k1:=x.ctake
 simp [Tm.a,c1,k1]
 refine ⟨.ok,?_⟩
 refine aA h (by simp [Tm.a]) ?_
 simp
 all_goals exact gz
theorem aJj (F:FuncId) (p:Tm→Bool) (l:List Tm) (hn:l.length≤9223372036854775807) (h:∀ x∈l,Cf Es F [x.a] [] (.d (.bool (p x))) []) :
  Cf Es 159 [.d (.sl (l.map Tm.c)),.clo 122 [.ptr aB 0 0]] [.var [.clo F []]] (.d (.int .i64 (iK p l))) [.var [.clo F []]]:=by
 refine cI bI (fn:=Tryz.f159) rfl ?_
 generalize hres:iK p l=res
 simp
 refine gr ?_
 refine aL bI (fun i:Nat=>{ s:=eP [(0,.d (.sl (l.map Tm.c))),(1,.clo 122 [.ptr 1000000 0 0]),(7,.d (.int .i64 l.length)),(8,.d (.int .i64 i))],b:=eG [(1000000,1000000,.var [.clo F []])] }) (fun i:Nat=>i≤l.length∧∀ j (y:Tm),j<i→l[j]?=some y→p y=true) (fun i=>l.length - i) 0 (by simp) (sZ _ [] (by simp [aD,Blk.live]) (by simp [aD])) ?_
 rintro i ⟨hi,ho⟩
 by_cases hlt:i<l.length
 ·have hlt':(i:Int)<l.length:=by omega
  obtain ⟨x,hg⟩:∃ x,l[i]?=some x:=⟨_,gE hlt⟩
  have hgi:∀ h,l[i]'h=x:=fun h=>(List.getElem?_eq_some_iff.1 hg).2
  have hx:=aNy F p x (h x (List.mem_of_getElem? hg))
  have c1:=x.clen
  have k1:=x.ctake
  simp [hlt,hlt',hgi,c1,k1]
  refine gr ?_
  refine aH [1000000] hx (by simp) (by simp [Tm.a]) ?_
  simp
  refine ⟨.ok,fun h=>⟨.ok,?_⟩,fun h=>⟨.ok,i+1,⟨hlt,?_⟩,?_,?_⟩⟩
  ·rw [← hres]
   have:=nS hg h ho
   simp [this]
  ·intro j y hj hy
   rcases Nat.lt_or_ge j i with c | c
   ·exact ho j y c hy
   ·obtain rfl:j=i:=by omega
    rw [hg] at hy
    cases hy
    exact h
  ·refine sZ _ [] (by simp [aD,Blk.live]) ?_
   simp [aD]
   exact aZ (by omega) (by omega)
  ·simp; omega
 ·have hlt':¬ (i:Int)<l.length:=by omega
  simp [hlt,hlt']
  refine gr ?_
  rw [← hres]
  have:=nT (p:=p) (l:=l) fun j y hj hy=>ho j y (by omega) hy
  simp [this]
theorem aAB (F:FuncId) (p:Tm→Bool) (l:List Tm) (hn:l.length≤9223372036854775807) (h:∀ x∈l,Cf Es F [x.a] [] (.d (.bool (p x))) []) :
  Cf Es 121 [.d (.sl (l.map Tm.c)),.clo 122 [.ptr aB 0 0]] [.var [.clo F []]] (.d (.bool (!l.all p))) [.var [.clo F []]]:=by
 refine cI bI (fn:=Tryz.f121) rfl ?_
 have hx:=aJj F p l hn h
 have hd:=oZ p l
 simp
 refine gr ?_
 refine kZ hx ?_
 simp [hd] <;> exact gz
theorem WL (F:FuncId) (p:Tm→Bool) (l:List Tm) (hn:l.length≤9223372036854775807) (h:∀ x∈l,Cf Es F [x.a] [] (.d (.bool (p x))) []) :
  Cf Es 82 [.d (.sl (l.map Tm.c)),.clo F []] [] (.d (.bool (l.all p))) []:=by
 refine cI bI (fn:=Tryz.f82) rfl ?_
 have hx:=aAB F p l hn h
 generalize hA:l.all p=A at *
 simp
 refine gr ?_
 refine aH [3] hx (by simp) (by simp) ?_
 simp
 all_goals exact gz
theorem aNz (F:FuncId) (p:It→Bool) (x:It) (h:Cf Es F [x.a] [] (.d (.bool (p x))) []):Cf Es 145 [x.a,.ptr aB 0 0] [.var [.clo F []]] (.d (.bool (!p x))) [.var [.clo F []]]:=by
 refine cI bI (fn:=Tryz.f145) rfl ?_
 have c1:=x.clen
 have k1:=x.ctake
 simp [It.a,c1,k1]
 refine ⟨.ok,?_⟩
 refine aA h (by simp [It.a]) ?_
 simp
 all_goals exact gz
theorem aJk (F:FuncId) (p:It→Bool) (l:List It) (hn:l.length≤9223372036854775807) (h:∀ x∈l,Cf Es F [x.a] [] (.d (.bool (p x))) []) :
  Cf Es 179 [.d (.sl (l.map It.c)),.clo 145 [.ptr aB 0 0]] [.var [.clo F []]] (.d (.int .i64 (iK p l))) [.var [.clo F []]]:=by
 refine cI bI (fn:=Tryz.f179) rfl ?_
 generalize hres:iK p l=res
 simp
 refine gr ?_
 refine aL bI (fun i:Nat=>{ s:=eP [(0,.d (.sl (l.map It.c))),(1,.clo 145 [.ptr 1000000 0 0]),(7,.d (.int .i64 l.length)),(8,.d (.int .i64 i))],b:=eG [(1000000,1000000,.var [.clo F []])] }) (fun i:Nat=>i≤l.length∧∀ j (y:It),j<i→l[j]?=some y→p y=true) (fun i=>l.length - i) 0 (by simp) (sZ _ [] (by simp [aD,Blk.live]) (by simp [aD])) ?_
 rintro i ⟨hi,ho⟩
 by_cases hlt:i<l.length
 ·have hlt':(i:Int)<l.length:=by omega
  obtain ⟨x,hg⟩:∃ x,l[i]?=some x:=⟨_,gE hlt⟩
  have hgi:∀ h,l[i]'h=x:=fun h=>(List.getElem?_eq_some_iff.1 hg).2
  have hx:=aNz F p x (h x (List.mem_of_getElem? hg))
  have c1:=x.clen
  have k1:=x.ctake
  simp [hlt,hlt',hgi,c1,k1]
  refine gr ?_
  refine aH [1000000] hx (by simp) (by simp [It.a]) ?_
  simp
  refine ⟨.ok,fun h=>⟨.ok,?_⟩,fun h=>⟨.ok,i+1,⟨hlt,?_⟩,?_,?_⟩⟩
  ·rw [← hres]
   have:=nS hg h ho
   simp [this]
  ·intro j y hj hy
   rcases Nat.lt_or_ge j i with c | c
   ·exact ho j y c hy
   ·obtain rfl:j=i:=by omega
    rw [hg] at hy
    cases hy
    exact h
  ·refine sZ _ [] (by simp [aD,Blk.live]) ?_
   simp [aD]
   exact aZ (by omega) (by omega)
  ·simp; omega
 ·have hlt':¬ (i:Int)<l.length:=by omega
  simp [hlt,hlt']
  refine gr ?_
  rw [← hres]
  have:=nT (p:=p) (l:=l) fun j y hj hy=>ho j y (by omega) hy
  simp [this]
theorem aAC (F:FuncId) (p:It→Bool) (l:List It) (hn:l.length≤9223372036854775807) (h:∀ x∈l,Cf Es F [x.a] [] (.d (.bool (p x))) []) :
  Cf Es 144 [.d (.sl (l.map It.c)),.clo 145 [.ptr aB 0 0]] [.var [.clo F []]] (.d (.bool (!l.all p))) [.var [.clo F []]]:=by
 refine cI bI (fn:=Tryz.f144) rfl ?_
 have hx:=aJk F p l hn h
 have hd:=oZ p l
 simp
 refine gr ?_
 refine kZ hx ?_
 simp [hd] <;> exact gz
theorem aNA (F:FuncId) (p:It→Bool) (l:List It) (hn:l.length≤9223372036854775807) (h:∀ x∈l,Cf Es F [x.a] [] (.d (.bool (p x))) []) :
  Cf Es 103 [.d (.sl (l.map It.c)),.clo F []] [] (.d (.bool (l.all p))) []:=by
 refine cI bI (fn:=Tryz.f103) rfl ?_
 have hx:=aAC F p l hn h
 generalize hA:l.all p=A at *
 simp
 refine gr ?_
 refine aH [3] hx (by simp) (by simp) ?_
 simp
 all_goals exact gz
theorem aNB (F:FuncId) (p:Jo→Bool) (x:Jo) (h:Cf Es F [x.a] [] (.d (.bool (p x))) []):Cf Es 147 [x.a,.ptr aB 0 0] [.var [.clo F []]] (.d (.bool (!p x))) [.var [.clo F []]]:=by
 refine cI bI (fn:=Tryz.f147) rfl ?_
 have c1:=x.clen
 have k1:=x.ctake
 simp [Jo.a,c1,k1]
 refine ⟨.ok,?_⟩
 refine aA h (by simp [Jo.a]) ?_
 simp
 all_goals exact gz
theorem aJl (F:FuncId) (p:Jo→Bool) (l:List Jo) (hn:l.length≤9223372036854775807) (h:∀ x∈l,Cf Es F [x.a] [] (.d (.bool (p x))) []) :
  Cf Es 180 [.d (.sl (l.map Jo.c)),.clo 147 [.ptr aB 0 0]] [.var [.clo F []]] (.d (.int .i64 (iK p l))) [.var [.clo F []]]:=by
 refine cI bI (fn:=Tryz.f180) rfl ?_
 generalize hres:iK p l=res
 simp
 refine gr ?_
 refine aL bI (fun i:Nat=>{ s:=eP [(0,.d (.sl (l.map Jo.c))),(1,.clo 147 [.ptr 1000000 0 0]),(7,.d (.int .i64 l.length)),(8,.d (.int .i64 i))],b:=eG [(1000000,1000000,.var [.clo F []])] }) (fun i:Nat=>i≤l.length∧∀ j (y:Jo),j<i→l[j]?=some y→p y=true) (fun i=>l.length - i) 0 (by simp) (sZ _ [] (by simp [aD,Blk.live]) (by simp [aD])) ?_
 rintro i ⟨hi,ho⟩
 by_cases hlt:i<l.length
 ·have hlt':(i:Int)<l.length:=by omega
  obtain ⟨x,hg⟩:∃ x,l[i]?=some x:=⟨_,gE hlt⟩
  have hgi:∀ h,l[i]'h=x:=fun h=>(List.getElem?_eq_some_iff.1 hg).2
  have hx:=aNB F p x (h x (List.mem_of_getElem? hg))
  have c1:=x.clen
  have k1:=x.ctake
  simp [hlt,hlt',hgi,c1,k1]
  refine gr ?_
  refine aH [1000000] hx (by simp) (by simp [Jo.a]) ?_
  simp
  refine ⟨.ok,fun h=>⟨.ok,?_⟩,fun h=>⟨.ok,i+1,⟨hlt,?_⟩,?_,?_⟩⟩
  ·rw [← hres]
   have:=nS hg h ho
   simp [this]
  ·intro j y hj hy
   rcases Nat.lt_or_ge j i with c | c
   ·exact ho j y c hy
   ·obtain rfl:j=i:=by omega
    rw [hg] at hy
    cases hy
    exact h
  ·refine sZ _ [] (by simp [aD,Blk.live]) ?_
   simp [aD]
   exact aZ (by omega) (by omega)
  ·simp; omega
 ·have hlt':¬ (i:Int)<l.length:=by omega
  simp [hlt,hlt']
  refine gr ?_
  rw [← hres]
  have:=nT (p:=p) (l:=l) fun j y hj hy=>ho j y (by omega) hy
  simp [this]
theorem aAD (F:FuncId) (p:Jo→Bool) (l:List Jo) (hn:l.length≤9223372036854775807) (h:∀ x∈l,Cf Es F [x.a] [] (.d (.bool (p x))) []) :
  Cf Es 146 [.d (.sl (l.map Jo.c)),.clo 147 [.ptr aB 0 0]] [.var [.clo F []]] (.d (.bool (!l.all p))) [.var [.clo F []]]:=by
 refine cI bI (fn:=Tryz.f146) rfl ?_
 have hx:=aJl F p l hn h
 have hd:=oZ p l
 simp
 refine gr ?_
 refine kZ hx ?_
 simp [hd] <;> exact gz
theorem aNC (F:FuncId) (p:Jo→Bool) (l:List Jo) (hn:l.length≤9223372036854775807) (h:∀ x∈l,Cf Es F [x.a] [] (.d (.bool (p x))) []) :
  Cf Es 106 [.d (.sl (l.map Jo.c)),.clo F []] [] (.d (.bool (l.all p))) []:=by
 refine cI bI (fn:=Tryz.f106) rfl ?_
 have hx:=aAD F p l hn h
 generalize hA:l.all p=A at *
 simp
 refine gr ?_
 refine aH [3] hx (by simp) (by simp) ?_
 simp
 all_goals exact gz
theorem aND (F:FuncId) (p:Sm→Bool) (x:Sm) (h:Cf Es F [x.a] [] (.d (.bool (p x))) []):Cf Es 149 [x.a,.ptr aB 0 0] [.var [.clo F []]] (.d (.bool (!p x))) [.var [.clo F []]]:=by
 refine cI bI (fn:=Tryz.f149) rfl ?_
 have c1:=x.clen
 have k1:=x.ctake
 simp [Sm.a,c1,k1]
 refine ⟨.ok,?_⟩
 refine aA h (by simp [Sm.a]) ?_
 simp
 all_goals exact gz
theorem aJm (F:FuncId) (p:Sm→Bool) (l:List Sm) (hn:l.length≤9223372036854775807) (h:∀ x∈l,Cf Es F [x.a] [] (.d (.bool (p x))) []) :
  Cf Es 181 [.d (.sl (l.map Sm.c)),.clo 149 [.ptr aB 0 0]] [.var [.clo F []]] (.d (.int .i64 (iK p l))) [.var [.clo F []]]:=by
 refine cI bI (fn:=Tryz.f181) rfl ?_
 generalize hres:iK p l=res
 simp
 refine gr ?_
 refine aL bI (fun i:Nat=>{ s:=eP [(0,.d (.sl (l.map Sm.c))),(1,.clo 149 [.ptr 1000000 0 0]),(7,.d (.int .i64 l.length)),(8,.d (.int .i64 i))],b:=eG [(1000000,1000000,.var [.clo F []])] }) (fun i:Nat=>i≤l.length∧∀ j (y:Sm),j<i→l[j]?=some y→p y=true) (fun i=>l.length - i) 0 (by simp) (sZ _ [] (by simp [aD,Blk.live]) (by simp [aD])) ?_
 rintro i ⟨hi,ho⟩
 by_cases hlt:i<l.length
 ·have hlt':(i:Int)<l.length:=by omega
  obtain ⟨x,hg⟩:∃ x,l[i]?=some x:=⟨_,gE hlt⟩
  have hgi:∀ h,l[i]'h=x:=fun h=>(List.getElem?_eq_some_iff.1 hg).2
  have hx:=aND F p x (h x (List.mem_of_getElem? hg))
  have c1:=x.clen
  have k1:=x.ctake
  simp [hlt,hlt',hgi,c1,k1]
  refine gr ?_
  refine aH [1000000] hx (by simp) (by simp [Sm.a]) ?_
  simp
  refine ⟨.ok,fun h=>⟨.ok,?_⟩,fun h=>⟨.ok,i+1,⟨hlt,?_⟩,?_,?_⟩⟩
  ·rw [← hres]
   have:=nS hg h ho
   simp [this]
  ·intro j y hj hy
   rcases Nat.lt_or_ge j i with c | c
   ·exact ho j y c hy
   ·obtain rfl:j=i:=by omega
    rw [hg] at hy
    cases hy
    exact h
  ·refine sZ _ [] (by simp [aD,Blk.live]) ?_
   simp [aD]
   exact aZ (by omega) (by omega)
  ·simp; omega
 ·have hlt':¬ (i:Int)<l.length:=by omega
  simp [hlt,hlt']
  refine gr ?_
  rw [← hres]
  have:=nT (p:=p) (l:=l) fun j y hj hy=>ho j y (by omega) hy
  simp [this]
theorem aAE (F:FuncId) (p:Sm→Bool) (l:List Sm) (hn:l.length≤9223372036854775807) (h:∀ x∈l,Cf Es F [x.a] [] (.d (.bool (p x))) []) :
  Cf Es 148 [.d (.sl (l.map Sm.c)),.clo 149 [.ptr aB 0 0]] [.var [.clo F []]] (.d (.bool (!l.all p))) [.var [.clo F []]]:=by
 refine cI bI (fn:=Tryz.f148) rfl ?_
 have hx:=aJm F p l hn h
 have hd:=oZ p l
 simp
 refine gr ?_
 refine kZ hx ?_
 simp [hd] <;> exact gz
theorem aNE (F:FuncId) (p:Sm→Bool) (l:List Sm) (hn:l.length≤9223372036854775807) (h:∀ x∈l,Cf Es F [x.a] [] (.d (.bool (p x))) []) :
  Cf Es 108 [.d (.sl (l.map Sm.c)),.clo F []] [] (.d (.bool (l.all p))) []:=by
 refine cI bI (fn:=Tryz.f108) rfl ?_
 have hx:=aAE F p l hn h
 generalize hA:l.all p=A at *
 simp
 refine gr ?_
 refine aH [3] hx (by simp) (by simp) ?_
 simp
 all_goals exact gz
section
variable {f:Tk→Tk} {g:Nat→Nat} (hf:∀ t,(f t).kd=t.kd∧(f t).rw=t.rw∧(f t).tx=t.tx∧(f t).n=t.n∧(f t).fr=g t.fr)
variable {tm tm':List Tk→cY Tm} {st st':List Tk→cY Sm}
variable (hT:∀ l,okE l→Sim f g (tm l) (tm' (l.map f))) (hS:∀ l,okE l→Sim f g (st l) (st' (l.map f)))
include hf
theorem aBe (w:List UInt8) (l:List Tk):fB w (l.map f)=((fB w l).1,(fB w l).2.map f):=by
 unfold fB
 rw [fE hf]
 split
 ·rw [List.map_tail]
 ·rfl
omit hf in
theorem yB {w:List UInt8} {l:List Tk} (h:okE l):okE (fB w l).2:=by
 unfold fB
 split
 ·rename_i hw; exact h.tl hw
 ·exact h
theorem aFr {l:List Tk} (h:okE l):Sim f g (ZY l) (ZY (l.map f)):=by
 unfold ZY
 rw [fE hf]
 split
 ·rename_i hw
  rw [← List.map_tail]
  exact vH hf (h.tl hw)
 ·exact .ok h
include hT in
theorem UN {l:List Tk} (h:okE l):Sim f g (pV tm l) (pV tm' (l.map f)) :=
 iD (hT l h) fun t m hm=>iD (aFr hf hm) fun n m2 h2=>.ok h2
include hT in
theorem MW:∀ (k:Nat) (is:List It) (l:List Tk),okE l→Sim f g (gY tm k is l) (gY tm' k is (l.map f))
 | 0,is,l,h=>.ok h
 | k+1,is,l,h=>by
   rw [gY,gY,fE hf]
   split
   ·rename_i hw
    rw [← List.map_tail]
    exact iD (UN hf hT (h.tl hw)) fun i m hm=>MW k _ m hm
   ·exact .ok h
include hS in
theorem yC {l:List Tk} (h:okE l):Sim f g (fF st l) (fF st' (l.map f)):=by
 unfold fF
 rw [fE hf]
 split
 ·rename_i hw
  rw [← List.map_tail]
  exact iD (hS _ (h.tl hw)) fun x m hm=>rQ hf _ hm fun m2 h2=>iD (vH hf h2) fun n m3 h3=>.ok h3
 ·exact iD (vH hf h) fun t m hm=>iD (aFr hf hm) fun n m2 h2=>.ok h2
include hT hS in
theorem UO (k:Nat) {l:List Tk} (h:okE l):Sim f g (lC tm st k l) (lC tm' st' k (l.map f)):=by
 unfold lC
 refine rQ hf _ h fun m hm=>iD (yC hf hS hm) fun s m2 h2=>?_
 split
 ·exact .ok h2
 ·exact rQ hf _ h2 fun m3 h3=>iD (hT m3 h3) fun t m4 h4=>.ok h4
include hT hS in
theorem CJ:∀ (k:Nat) (js:List Jo) (l:List Tk),okE l→Sim f g (fS tm st k js l) (fS tm' st' k js (l.map f))
 | 0,js,l,h=>.ok h
 | k+1,js,l,h=>by
   rw [fS,fS,wN hf]
   cases ho:bN joiW l with
   | some i =>
     simp only
     rw [← List.map_tail]
     exact iD (UO hf hT hS _ (h.tl1 ho)) fun j m hm=>CJ k _ m hm
   | none =>
     simp only
     rw [fE hf]
     split
     ·exact iD (UO hf hT hS _ h) fun j m hm=>CJ k _ m hm
     ·exact .ok h
include hT in
theorem aBf (w:List UInt8) {l:List Tk} (h:okE l):Sim f g (vK tm w l) (vK tm' w (l.map f)):=by
 unfold vK
 rw [fE hf]
 split
 ·rename_i hw
  rw [← List.map_tail]
  exact iD (hT _ (h.tl hw)) fun t m hm=>.ok hm
 ·exact .ok h
include hT in
theorem aDp {l:List Tk} (h:okE l):Sim f g (mN tm l) (mN tm' (l.map f)):=by
 unfold mN
 rw [fE hf]
 split
 ·rename_i hw
  rw [← List.map_tail]
  exact rQ hf _ (h.tl hw) fun m hm=>iD (hT m hm) fun t m2 h2=>by
   rw [List.length_map]
   exact IH hf hT _ _ m2 h2
 ·exact .ok h
include hT in
theorem aFs {l:List Tk} (h:okE l):Sim f g (rA tm l) (rA tm' (l.map f)):=by
 unfold rA
 rw [fE hf]
 split
 ·rename_i hw
  rw [← List.map_tail]
  exact .ok (h.tl hw)
 ·exact iD (UN hf hT h) fun i m hm=>by
   rw [List.length_map]
   exact MW hf hT _ _ m hm
include hT hS in
theorem aIa {l:List Tk} (h:okE l):Sim f g (vL tm st l) (vL tm' st' (l.map f)):=by
 unfold vL
 refine rQ hf _ h fun m hm=>?_
 rw [aBe hf]
 simp only
 rw [fE hf]
 exact iD (aFs hf hT (yB hm)) fun is m2 h2=>rQ hf _ h2 fun m3 h3=>iD (yC hf hS h3) fun s m4 h4=>by
  rw [List.length_map]
  exact iD (CJ hf hT hS _ _ m4 h4) fun js m5 h5=>iD (aBf hf hT _ h5) fun w m6 h6=>iD (aDp hf hT h6) fun gr m7 h7=>iD (aBf hf hT _ h7) fun hv m8 h8=>.ok h8
include hT hS in
theorem II {l:List Tk} (h:okE l):Sim f g (jQ tm st l) (jQ tm' st' (l.map f)):=by
 unfold jQ
 rw [fE hf]
 split
 ·rename_i hw
  rw [← List.map_tail]
  exact iD (hS _ (h.tl hw)) fun x m hm=>rQ hf _ hm fun m2 h2=>.ok h2
 ·exact aIa hf hT hS h
include hT hS in
theorem UP:∀ (k:Nat) (x:Sm) (l:List Tk),okE l→Sim f g (fW tm st k x l) (fW tm' st' k x (l.map f))
 | 0,x,l,h=>.ok h
 | k+1,x,l,h=>by
   rw [fW,fW,wN hf]
   cases ho:bN setW l with
   | none=>exact .ok h
   | some i =>
     simp only
     rw [← List.map_tail,aBe hf]
     exact iD (II hf hT hS (yB (h.tl1 ho))) fun y m hm=>UP k _ m hm
end
section
variable {f:Tk→Tk} {g:Nat→Nat} (hf:∀ t,(f t).kd=t.kd∧(f t).rw=t.rw∧(f t).tx=t.tx∧(f t).n=t.n∧(f t).fr=g t.fr)
include hf
theorem sK (N:Nat):∀ (n:Nat) (l:List Tk),okE l→Sim f g (eV N n l) (eV N n (l.map f))
 | 0,l,h=>by
   rw [eV,eV,FK hf h]
   exact rfl
 | n+1,l,h=>by
   rw [eV,eV]
   exact iD (II hf (eQ hf N 0) (sK N n) h) fun x m hm=>by
    rw [List.length_map]
    exact UP hf (eQ hf N 0) (sK N n) _ _ m hm
end
theorem pI {α:Type} {p:α→Bool} {l:List α} {i:Nat} {x:α} (h:l[i]?=some x):(l.drop i).find? p=if p x=true then some x else (l.drop (i+1)).find? p:=by
 obtain ⟨hi,rfl⟩:=List.getElem?_eq_some_iff.1 h
 rw [List.drop_eq_getElem_cons hi,List.find?_cons]
 split <;> simp_all
theorem V.clen (v:V):v.c.length=3:=rfl
def NQ (s:List UInt8) (i:Nat):Int:=(s.take i).foldl mT 0
def gOf (s:List UInt8) (i:Nat):Bool:=(s.take i).any (·==45)
theorem WN {s:List UInt8} {i:Nat} {c:UInt8} (h:s[i]?=some c):NQ s (i+1)=mT (NQ s i) c:=by
 unfold NQ
 rw [List.take_add_one,h,List.foldl_append]
 rfl
theorem WO {s:List UInt8} {i:Nat} {c:UInt8} (h:s[i]?=some c):gOf s (i+1)=(gOf s i||c==45):=by
 unfold gOf
 rw [List.take_add_one,h,List.any_append]
 simp
theorem WP (s:List UInt8):(mU s).length≤5:=by
 unfold mU
 split <;> simp
theorem aNF (c:UInt8):((c.toNat:Int)==45)=(c==45):=by
 rw [Bool.eq_iff_iff]
 simp only [beq_iff_eq]
 constructor
 ·intro h
  have:c.toNat=45:=by omega
  exact UInt8.toNat_inj.1 this
 ·rintro rfl; rfl
theorem KI {s:List UInt8} (h:s.length≤14):ER s=if gOf s s.length=true then IntKind.i64.wrap (0 - NQ s s.length) else NQ s s.length:=by
 unfold ER NQ gOf
 rw [if_pos h,List.take_length]
theorem NR {s:List UInt8} (h:¬ s.length≤14):ER s=0:=by
 unfold ER
 rw [if_neg h]
theorem aCa (s:List UInt8) (hs:s.length≤1000000):Cf Ev 93 [.d (.str s)] [] (.tup [(lE s).1.a,.d (.int .i64 (lE s).2)]) []:=by
 refine cI mS (fn:=Tryz.f93) rfl ?_
 have hcl:=WP s
 rcases Nat.lt_or_ge s.length 2 with q0 | q
 case' inr =>
  have hL1:∃ L1:List V,L1=[cF,⟨2,0,[]⟩,⟨2,1,[]⟩,⟨3,0,mid s⟩]:=⟨_,rfl⟩
  obtain ⟨L1,hL1⟩:=hL1
  have hcand:L1++[⟨1,ER s,[]⟩]=mU s:=by rw [hL1]; unfold mU; rw [if_pos q]; rfl
  have hL1l:L1.length≤4:=by rw [hL1]; simp
  have q4:(2:Int)≤s.length:=by omega
  have hw:IntKind.i64.wrap ((s.length:Int) - 1)=(s.length:Int) - 1:=aZ (by omega) (by omega)
  have q5:(1:Int)≤(s.length:Int) - 1:=by omega
  have q6:(s.length:Int) - 1≤s.length:=by omega
  have hn:((s.length:Int) - 1).toNat=s.length - 1:=by omega
  have hmid:(s.take (s.length - 1)).tail=mid s:=by unfold mid; simp
  simp [V.a]
  (repeat refine ⟨.of (by kernel_rfl),?_⟩)
  refine aA (QY 0 (.inl rfl)) (by simp) ?_
  simp [V.a]
  refine aA (QY 1 (.inr rfl)) (by simp) ?_
  simp [V.a,q,q4,hw,q5,q6,hn,hmid]
  (repeat refine ⟨.of (by kernel_rfl),?_⟩)
  refine aL mS (fun i:Nat=>{ s:=eP [(0,.d (.str s)),(2,.ptr 2 0 0),(3,.d (.int .i64 0)),(4,.ref 4 0 L1.length 3),(5,.d (.int .i64 (NQ s i))),(6,.d (.bool (gOf s i))),(7,.d (.int .i64 i))],b:=eG [(2,2,.var (V.a cF).cells),(4,4,.arr 55 3 (L1.map V.c) false)] }) (fun i:Nat=>i≤s.length∧(14<s.length→i=0)) (fun i=>s.length - i) 0 (by simp) (sM _ [(2,2,_),(4,24,_)] (by simp [aD,Blk.live,V.a,cF,hL1,V.c]) (by simp [aD,hL1,NQ,gOf])) ?_
 case' inl =>
  have q:¬ 2≤s.length:=by omega
  have hL1:∃ L1:List V,L1=[cF,⟨2,0,[]⟩,⟨2,1,[]⟩]:=⟨_,rfl⟩
  obtain ⟨L1,hL1⟩:=hL1
  have hcand:L1++[⟨1,ER s,[]⟩]=mU s:=by rw [hL1]; unfold mU; rw [if_neg q]; rfl
  have hL1l:L1.length≤4:=by rw [hL1]; simp
  have q4:¬ (2:Int)≤s.length:=by omega
  simp [V.a]
  (repeat refine ⟨.of (by kernel_rfl),?_⟩)
  refine aA (QY 0 (.inl rfl)) (by simp) ?_
  simp [V.a]
  refine aA (QY 1 (.inr rfl)) (by simp) ?_
  simp [V.a,q,q4]
  (repeat refine ⟨.of (by kernel_rfl),?_⟩)
  refine aL mS (fun i:Nat=>{ s:=eP [(0,.d (.str s)),(2,.ptr 2 0 0),(3,.d (.int .i64 0)),(4,.ref 4 0 L1.length 3),(5,.d (.int .i64 (NQ s i))),(6,.d (.bool (gOf s i))),(7,.d (.int .i64 i))],b:=eG [(2,2,.var (V.a cF).cells),(4,4,.arr 55 3 (L1.map V.c) false)] }) (fun i:Nat=>i≤s.length∧(14<s.length→i=0)) (fun i=>s.length - i) 0 (by simp) (sM _ [(2,2,_),(4,12,_)] (by simp [aD,Blk.live,V.a,cF,hL1,V.c]) (by simp [aD,hL1,NQ,gOf])) ?_
 all_goals
  rintro i ⟨hi,ho⟩
  have hfin:∀ N:Int,N=ER s→L1.map V.c++[[.int .i64 1,.int .i64 N,.str []]]=(mU s).map V.c:=fun N hN=>by rw [← hcand,hN]; simp [V.c]
  have hlen:L1.length+1=(mU s).length:=by rw [← hcand]; simp
  have b1:(L1.length+1)*32≤140737488355328:=by omega
  have b2:L1.length+1≤9223372036854775807:=by omega
  by_cases hrd:s.length≤14∧i<s.length
  ·obtain ⟨h14,hlt⟩:=hrd
   have h14':(s.length:Int)≤14:=by omega
   have hlt':(i:Int)<s.length:=by omega
   obtain ⟨c,hg⟩:∃ c,s[i]?=some c:=⟨_,gE hlt⟩
   have hgi:∀ h,s[i]'h=c:=fun h=>(List.getElem?_eq_some_iff.1 hg).2
   have hn1:=WN hg
   have hg1:=WO hg
   have e45:=aNF c
   have hdig:cU c=(decide ((48:Int)≤c.toNat)&&decide ((c.toNat:Int)≤57)):=by unfold cU; rw [Bool.eq_iff_iff]; simp; omega
   have hwi:IntKind.i64.wrap ((i:Int)+1)=i+1:=aZ (by omega) (by omega)
   clear hfin hcand
   cases hD:cU c with
   | true =>
     rw [hdig] at hD
     have d1:(48:Int)≤c.toNat:=by simp at hD; omega
     have d2:(c.toNat:Int)≤57:=by simp at hD; omega
     have hst:mT (NQ s i) c=IntKind.i64.wrap (IntKind.i64.wrap (10*NQ s i)+IntKind.i64.wrap (IntKind.u8.wrap ((c.toNat:Int) - 48))):=by unfold mT; rw [if_pos (by rw [hdig,hD])]
     rw [hst] at hn1
     simp [hlt,hlt',hg,hgi,h14,h14',d1,d2]
     (repeat' (first|contradiction|exact .ok|apply And.intro|intro _|(refine gc (fun h=>?_) (fun h=>?_)<;>(have h':=h;(try simp at h');first|done|simp[h,h',hlt,hlt',hg,hgi,h14,h14',d1,d2]|simp[hlt,hlt',hg,hgi,h14,h14',d1,d2]))))
     all_goals (refine ⟨i+1,⟨hlt,fun h=>by omega⟩,sM _ [(2,2,_),(4,4,_)] (by simp [aD,Blk.live,V.a,cF]) ?_,by simp; omega⟩)
     all_goals simp [aD,hn1,hg1,hwi]
     all_goals simp_all
   | false =>
     have hst:mT (NQ s i) c=NQ s i:=by unfold mT; rw [hD]; rfl
     rw [hdig] at hD
     rw [hst] at hn1
     simp [hlt,hlt',hg,hgi,h14,h14']
     (repeat' (first|contradiction|exact .ok|apply And.intro|intro _|(refine gc (fun h=>?_) (fun h=>?_)<;>(have h':=h;(try simp at h');first|done|simp[h,h',hlt,hlt',hg,hgi,h14,h14']|simp[hlt,hlt',hg,hgi,h14,h14']))))
     all_goals first
      | (refine ⟨i+1,⟨hlt,fun h=>by omega⟩,sM _ [(2,2,_),(4,4,_)] (by simp [aD,Blk.live,V.a,cF]) ?_,by simp; omega⟩
         simp [aD,hn1,hg1,hwi]
         simp_all)
      | (exfalso; simp_all; done)
      | (exfalso; simp_all; omega)
  have hcs:(s.length≤14∧i=s.length∧gOf s s.length=true)∨(s.length≤14∧i=s.length∧gOf s s.length=false)∨(¬ s.length≤14∧i=0):=by
   by_cases h14:s.length≤14
   ·have:i=s.length:=by omega
    cases gOf s s.length <;> simp [h14,this]
   ·exact .inr (.inr ⟨h14,ho (by omega)⟩)
  clear hrd ho hi
  obtain ⟨C,hC⟩:∃ C,C=mU s:=⟨_,rfl⟩
  rw [← hC] at hlen hcl
  rcases hcs with ⟨h14,rfl,hG⟩ | ⟨h14,rfl,hG⟩ | ⟨h14,rfl⟩
  all_goals first
   | (exfalso; omega)
   | (have hnum:=KI h14
      have h14':(s.length:Int)≤14:=by omega
      rw [hG,if_pos rfl] at hnum
      replace hfin:=hfin _ hnum.symm
      rw [← hC] at hfin
      simp at hfin
      simp [h14,h14',b1,b2,hG]
      (repeat refine ⟨.of (by kernel_rfl),?_⟩))
   | (have hnum:=KI h14
      have h14':(s.length:Int)≤14:=by omega
      rw [hG,if_neg (by simp)] at hnum
      replace hfin:=hfin _ hnum.symm
      rw [← hC] at hfin
      simp [h14,h14',b1,b2,hG]
      (repeat refine ⟨.of (by kernel_rfl),?_⟩))
   | (have h14':¬ (s.length:Int)≤14:=by omega
      have hnum:=NR h14
      replace hfin:=hfin 0 hnum.symm
      rw [← hC] at hfin
      have hz:NQ s 0=0:=rfl
      have hzg:gOf s 0=false:=rfl
      have hpos:(0:Int)<s.length:=by omega
      have hpos':0<s.length:=by omega
      simp [h14,h14',b1,b2,hz,hzg,hpos,hpos']
      (repeat refine ⟨.of (by kernel_rfl),?_⟩))
  all_goals
   refine aL mS (fun j:Nat=>{ s:=eP [(0,.d (.str s)),(2,.ptr 2 0 0),(3,.d (.int .i64 0)),(4,.ref 4 0 C.length 3),(8,.d (.int .i64 j))],b:=eG [(2,2,.var (V.a cF).cells),(4,4,.arr 55 3 (C.map V.c) false)] }) (fun j:Nat=>j≤C.length∧(C.drop j).find? (cA s)=C.find? (cA s)) (fun j=>C.length - j) 0 (by simp) (sM _ [(2,2,_),(4,68,_)] (by simp [aD,Blk.live,V.a,cF,hfin]) (by simp [aD,hlen])) ?_
   clear hfin hlen hcand hL1 hL1l
   rintro j ⟨hj,hf⟩
   by_cases hlt2:j<C.length
   ·have hlt2':(j:Int)<C.length:=by omega
    obtain ⟨x,hx⟩:∃ x,C[j]?=some x:=⟨_,gE hlt2⟩
    have hxi:∀ h,C[j]'h=x:=fun h=>(List.getElem?_eq_some_iff.1 hx).2
    rw [pI hx] at hf
    have e1:=upv (oY x)
    have e2:=xB x
    have hgb:cA s x=(x.valid&&gC x==s):=rfl
    have hhit:cA s x=true→lE s=(x,0):=fun h=>by rw [if_pos h] at hf; unfold lE; rw [← hC,← hf]
    have hmiss:cA s x=false→(C.drop (j+1)).find? (cA s)=C.find? (cA s):=fun h=>by rw [h] at hf; simpa using hf
    clear hf
    generalize x.valid=W at *
    generalize gC x=T at *
    cases W with
    | false =>
      have hmiss:=hmiss (by rw [hgb]; rfl)
      simp [hlt2,hlt2',hx,hxi,V.c,V.a,cF]
      (repeat refine ⟨.of (by kernel_rfl),?_⟩)
      refine aA e1 (by simp [V.a]) ?_
      simp
      (repeat refine ⟨.of (by kernel_rfl),?_⟩)
      refine ⟨j+1,⟨hlt2,hmiss⟩,sM _ [(2,2,_),(4,4,_)] (by simp [aD,Blk.live,V.a,cF,V.c]) ?_,by simp; omega⟩
      simp [aD]
      exact aZ (by omega) (by omega)
    | true =>
      by_cases hTs:T=s
      ·have hhit:=hhit (by rw [hgb,hTs]; simp)
       rw [hhit]
       simp [hlt2,hlt2',hx,hxi,V.c,V.a,cF]
       (repeat refine ⟨.of (by kernel_rfl),?_⟩)
       refine aA e1 (by simp [V.a]) ?_
       simp [hlt2,hlt2',hx,hxi,V.c,V.a,cF]
       refine aA e2 (by simp [V.a]) ?_
       simp [hlt2,hlt2',hx,hxi,V.c,V.a,cF,hTs]
       all_goals exact gz
      ·have hmiss:=hmiss (by rw [hgb]; simpa using hTs)
       simp [hlt2,hlt2',hx,hxi,V.c,V.a,cF]
       (repeat refine ⟨.of (by kernel_rfl),?_⟩)
       refine aA e1 (by simp [V.a]) ?_
       simp [hlt2,hlt2',hx,hxi,V.c,V.a,cF]
       refine aA e2 (by simp [V.a]) ?_
       simp [hlt2,hlt2',hx,hxi,V.c,V.a,cF,hTs]
       (repeat refine ⟨.of (by kernel_rfl),?_⟩)
       refine ⟨j+1,⟨hlt2,hmiss⟩,sM _ [(2,2,_),(4,4,_)] (by simp [aD,Blk.live,V.a,cF,V.c]) ?_,by simp; omega⟩
       simp [aD]
       exact aZ (by omega) (by omega)
   ·have hlt2':¬ (j:Int)<C.length:=by omega
    have hrr:lE s=(cF,2):=by
     unfold lE
     rw [← hC,← hf,List.drop_eq_nil_of_le (by omega)]
     rfl
    rw [hrr]
    simp [hlt2,hlt2',V.a,cF,V.c]
    all_goals exact gz
end Go.Proofs.Tryz
