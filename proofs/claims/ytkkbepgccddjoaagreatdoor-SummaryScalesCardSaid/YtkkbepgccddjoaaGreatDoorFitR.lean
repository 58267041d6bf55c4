import Derived.Test.YtkkbepgccddjoaaGreatDoorCSty
import Derived.Test.YtkkbepgccddjoaaGreatDoorAbB
set_option linter.all false
namespace Go.Proofs.Tryz
open Go.Ab
set_option maxRecDepth 100000
set_option maxHeartbeats 4000000
theorem CS:∀ (m:Nat) (e:Ex),SizeOf.sizeOf e<m→∀ q,e.few q=true→e.fits
 | 0,_,h,_,_=>absurd h (by omega)
 | m+1,.mk o c n t g ks,hm,q,hq=>by
   obtain ⟨hk,ht,hfew⟩:=hJ hq
   rw [Ex.fits]
   refine ⟨by omega,?_⟩
   have:∀ l:List Ex,(∀ e∈l,e.fits)→jJ l:=by
    intro l
    induction l with
    | nil=>intro _; trivial
    | cons e es ih=>intro h; exact ⟨h e List.mem_cons_self,ih fun x hx=>h x (List.mem_cons_of_mem _ hx)⟩
   exact this ks fun e he=>CS m e (by have:=Ex.kid_lt (e:=.mk o c n t g ks) (k:=e) he; omega) (q+1) (hfew e he)
theorem aAY:∀ (m:Nat) (e:Ex),SizeOf.sizeOf e<m→∀ q,e.few q=true→Cf En 130 [e.a] [] (.d (.int .i64 e.size)) []
 | 0,_,h,_,_=>absurd h (by omega)
 | m+1,.mk o c n t g ks,hm,q,hq=>by
   obtain ⟨hk,ht,hfew⟩:=hJ hq
   refine cI aW (fn:=Tryz.f130) rfl ?_
   have hf:Ex.size (.mk o c n t g ks)=dS 1 ks:=by rw [Ex.size]
   rw [hf]
   generalize hres:dS 1 ks=res
   simp [Ex.a,Ex.c,aE]
   (repeat' (first|contradiction|exact .ok|apply And.intro|intro _|(refine gc (fun h=>?_) (fun h=>?_)<;>(have h':=h;(try simp at h');first|done|simp[h,h']|simp))))
   refine aL aW (fun p:Nat×Int=>{ s:=cE [(1,.ptr 1 0 0),(3,.d (.int .i64 p.2)),(7,.d (.sl (ks.map Ex.c))),(8,.d (.int .i64 ks.length)),(9,.d (.int .i64 p.1))],b:=cC [(1,1,.var (Ex.a (.mk o c n t g ks)).cells)] }) (fun p=>p.1≤ks.length∧dS p.2 (ks.drop p.1)=res) (fun p=>ks.length - p.1) (0,1) (by simp [hres]) (aI _ _ ⟨by simp,by simp,by simp [aB,Blk.live,Ex.a,Ex.c,aE],by simp⟩ (by simp [aB])) ?_
   rintro ⟨i,acc⟩ ⟨hi,ho⟩
   simp only at hi ho
   by_cases hlt:i<ks.length
   ·have hlt':(i:Int)<ks.length:=by omega
    have hg:ks[i]?=some ks[i]:=gE hlt
    have hdr:=vT acc hg
    have hkid:SizeOf.sizeOf ks[i]<m:=by
     have:=Ex.kid_lt (e:=.mk o c n t g ks) (k:=ks[i]) (List.getElem_mem hlt)
     omega
    simp [Ex.a,Ex.c,aE,hlt,hlt',Ex.clen,Ex.ctake]
    (repeat' (first|contradiction|exact .ok|apply And.intro|intro _|(refine gc (fun h=>?_) (fun h=>?_)<;>(have h':=h;(try simp at h');first|done|simp[h,h']|simp))))
    refine aA (aAY m ks[i] hkid (q+1) (hfew _ (List.getElem_mem hlt))) (by simp [Ex.a]) ?_
    simp
    (repeat' (first|contradiction|exact .ok|apply And.intro|intro _|(refine gc (fun h=>?_) (fun h=>?_)<;>(have h':=h;(try simp at h');first|done|simp[h,h']|simp))))
    refine ⟨(i+1,IntKind.i64.wrap (acc+ks[i].size)),⟨hlt,?_⟩,?_,?_⟩
    ·rw [← ho,hdr]
    ·refine sM _ [(1,1,_)] (by simp [aB,Blk.live,aE]) ?_
     simp [aB]
     exact bL (by omega) (by omega)
    ·simp; omega
   ·have hlt':¬ (i:Int)<ks.length:=by omega
    simp [Ex.a,Ex.c,aE,hlt,hlt']
    (repeat' (first|contradiction|exact .ok|apply And.intro|intro _|(refine gc (fun h=>?_) (fun h=>?_)<;>(have h':=h;(try simp at h');first|done|simp[h,h']|simp))))
    rw [← ho,List.drop_eq_nil_of_le (by omega)]; rfl
mutual
def Ex.dep:Ex→Nat
 | .mk _ _ _ _ _ ks=>eO 0 ks+1
def eO:Nat→List Ex→Nat
 | a,[]=>a
 | a,e::es=>eO (max a e.dep) es
end
theorem yU {l:List Ex} {i:Nat} {x:Ex} (a:Nat) (h:l[i]?=some x):eO a (l.drop i)=eO (max a x.dep) (l.drop (i+1)):=by
 obtain ⟨hi,rfl⟩:=List.getElem?_eq_some_iff.1 h
 rw [List.drop_eq_getElem_cons hi,eO]
theorem GN (b:Nat):∀ (l:List Ex) (a:Nat),a≤b→(∀ e∈l,e.dep≤b)→eO a l≤b
 | [],a,h,_=>h
 | e::es,a,h,hl=>by
   rw [eO]
   exact GN b es _ (by have:=hl e List.mem_cons_self; omega) (fun x hx=>hl x (List.mem_cons_of_mem _ hx))
theorem JQ:∀ (m:Nat) (e:Ex),SizeOf.sizeOf e<m→∀ q,e.few q=true→e.dep+q≤61
 | 0,_,h,_,_=>absurd h (by omega)
 | m+1,.mk o c n t g ks,hm,q,hq=>by
   obtain ⟨hk,ht,hfew⟩:=hJ hq
   have hq60:q≤60:=by
    rw [Ex.few] at hq
    by_cases h:60<q
    ·simp [h] at hq
    ·omega
   have:=GN (60 - q) ks 0 (by omega) (fun e he=>by
    have:=JQ m e (by have:=Ex.kid_lt (e:=.mk o c n t g ks) (k:=e) he; omega) (q+1) (hfew e he)
    omega)
   rw [Ex.dep]
   omega
theorem VA:∀ (m:Nat) (e:Ex),SizeOf.sizeOf e<m→∀ q,e.few q=true→Cf En 131 [e.a] [] (.d (.int .i64 e.dep)) []
 | 0,_,h,_,_=>absurd h (by omega)
 | m+1,.mk o c n t g ks,hm,q,hq=>by
   obtain ⟨hk,ht,hfew⟩:=hJ hq
   have hdep:=JQ _ _ (Nat.lt_succ_self _) q hq
   refine cI aW (fn:=Tryz.f131) rfl ?_
   rw [Ex.dep] at hdep ⊢
   generalize hres:eO 0 ks=res at *
   simp [Ex.a,Ex.c,aE]
   (repeat' (first|contradiction|exact .ok|apply And.intro|intro _|(refine gc (fun h=>?_) (fun h=>?_)<;>(have h':=h;(try simp at h');first|done|simp[h,h']|simp))))
   refine aL aW (fun p:Nat×Nat=>{ s:=cE [(1,.ptr 1 0 0),(3,.d (.int .i64 p.2)),(7,.d (.sl (ks.map Ex.c))),(8,.d (.int .i64 ks.length)),(9,.d (.int .i64 p.1))],b:=cC [(1,1,.var (Ex.a (.mk o c n t g ks)).cells)] }) (fun p=>p.1≤ks.length∧eO p.2 (ks.drop p.1)=res) (fun p=>ks.length - p.1) (0,0) (by simp [hres]) (aI _ _ ⟨by simp,by simp,by simp [aB,Blk.live,Ex.a,Ex.c,aE],by simp⟩ (by simp [aB])) ?_
   rintro ⟨i,acc⟩ ⟨hi,ho⟩
   simp only at hi ho
   by_cases hlt:i<ks.length
   ·have hlt':(i:Int)<ks.length:=by omega
    have hg:ks[i]?=some ks[i]:=gE hlt
    have hdr:=yU acc hg
    have hkid:SizeOf.sizeOf ks[i]<m:=by
     have:=Ex.kid_lt (e:=.mk o c n t g ks) (k:=ks[i]) (List.getElem_mem hlt)
     omega
    have hmax:(if (acc:Int)<ks[i].dep then (ks[i].dep:Int) else acc)=((max acc ks[i].dep:Nat):Int):=by split <;> omega
    simp [Ex.a,Ex.c,aE,hlt,hlt',Ex.clen,Ex.ctake]
    (repeat' (first|contradiction|exact .ok|apply And.intro|intro _|(refine gc (fun h=>?_) (fun h=>?_)<;>(have h':=h;(try simp at h');first|done|simp[h,h']|simp))))
    refine aA (VA m ks[i] hkid (q+1) (hfew _ (List.getElem_mem hlt))) (by simp [Ex.a]) ?_
    simp
    (repeat' (first|contradiction|exact .ok|apply And.intro|intro _|(refine gc (fun h=>?_) (fun h=>?_)<;>(have h':=h;(try simp at h');first|done|simp[h,h']|simp))))
    refine ⟨(i+1,max acc ks[i].dep),⟨hlt,?_⟩,?_,?_⟩
    ·rw [← ho,hdr]
    ·refine sM _ [(1,1,_)] (by simp [aB,Blk.live,aE]) ?_
     simp [aB]
     refine ⟨?_,bL (by omega) (by omega)⟩
     split <;> omega
    ·simp; omega
   ·have hlt':¬ (i:Int)<ks.length:=by omega
    have hacc:acc=res:=by
     rw [← ho,List.drop_eq_nil_of_le (by omega)]; rfl
    have hw:=wI (n:=(acc:Int)+1)
    simp [Ex.a,Ex.c,aE,hlt,hlt',hw]
    (repeat' (first|contradiction|exact .ok|apply And.intro|intro _|(refine gc (fun h=>?_) (fun h=>?_)<;>(have h':=h;(try simp at h');first|done|simp[h,h']|simp))))
    all_goals omega
theorem NP:∀ (m:Nat) (e:Ex),SizeOf.sizeOf e<m→∀ q,e.few q=true→Cf En 146 [e.a] [] (.d (.int .i64 e.dep)) []
 | 0,_,h,_,_=>absurd h (by omega)
 | m+1,.mk o c n t g ks,hm,q,hq=>by
   obtain ⟨hk,ht,hfew⟩:=hJ hq
   have hdep:=JQ _ _ (Nat.lt_succ_self _) q hq
   refine cI aW (fn:=Tryz.f146) rfl ?_
   rw [Ex.dep] at hdep ⊢
   generalize hres:eO 0 ks=res at *
   simp [Ex.a,Ex.c,aE]
   (repeat' (first|contradiction|exact .ok|apply And.intro|intro _|(refine gc (fun h=>?_) (fun h=>?_)<;>(have h':=h;(try simp at h');first|done|simp[h,h']|simp))))
   refine aL aW (fun p:Nat×Nat=>{ s:=cE [(1,.ptr 1 0 0),(3,.d (.int .i64 p.2)),(4,.d (.int .i64 p.1))],b:=cC [(1,1,.var (Ex.a (.mk o c n t g ks)).cells)] }) (fun p=>p.1≤ks.length∧eO p.2 (ks.drop p.1)=res) (fun p=>ks.length - p.1) (0,0) (by simp [hres]) (aI _ _ ⟨by simp,by simp,by simp [aB,Blk.live,Ex.a,Ex.c,aE],by simp⟩ (by simp [aB])) ?_
   rintro ⟨i,acc⟩ ⟨hi,ho⟩
   simp only at hi ho
   by_cases hlt:i<ks.length
   ·have hlt':(i:Int)<ks.length:=by omega
    have hg:ks[i]?=some ks[i]:=gE hlt
    have hdr:=yU acc hg
    have hkid:SizeOf.sizeOf ks[i]<m:=by
     have:=Ex.kid_lt (e:=.mk o c n t g ks) (k:=ks[i]) (List.getElem_mem hlt)
     omega
    have hmax:(if (acc:Int)<ks[i].dep then (ks[i].dep:Int) else acc)=((max acc ks[i].dep:Nat):Int):=by split <;> omega
    simp [Ex.a,Ex.c,aE,hlt,hlt',Ex.clen,Ex.ctake]
    (repeat' (first|contradiction|exact .ok|apply And.intro|intro _|(refine gc (fun h=>?_) (fun h=>?_)<;>(have h':=h;(try simp at h');first|done|simp[h,h']|simp))))
    refine aA (NP m ks[i] hkid (q+1) (hfew _ (List.getElem_mem hlt))) (by simp [Ex.a]) ?_
    simp
    (repeat' (first|contradiction|exact .ok|apply And.intro|intro _|(refine gc (fun h=>?_) (fun h=>?_)<;>(have h':=h;(try simp at h');first|done|simp[h,h']|simp))))
    refine ⟨(i+1,max acc ks[i].dep),⟨hlt,?_⟩,?_,?_⟩
    ·rw [← ho,hdr]
    ·refine sM _ [(1,1,_)] (by simp [aB,Blk.live,aE]) ?_
     simp [aB]
     refine ⟨?_,bL (by omega) (by omega)⟩
     split <;> omega
    ·simp; omega
   ·have hlt':¬ (i:Int)<ks.length:=by omega
    have hacc:acc=res:=by
     rw [← ho,List.drop_eq_nil_of_le (by omega)]; rfl
    have hw:=wI (n:=(acc:Int)+1)
    simp [Ex.a,Ex.c,aE,hlt,hlt',hw]
    (repeat' (first|contradiction|exact .ok|apply And.intro|intro _|(refine gc (fun h=>?_) (fun h=>?_)<;>(have h':=h;(try simp at h');first|done|simp[h,h']|simp))))
    all_goals omega
theorem CT (t:Int):Cf En 176 [.d (.int .i64 t)] [] (.d (.bool (t==1||(t==2||t==3)))) []:=by
 refine cI aW (fn:=Tryz.f176) rfl ?_
 simp
 (repeat' (first|contradiction|exact .ok|apply And.intro|intro _|(refine gc (fun h=>?_) (fun h=>?_)<;>(have h':=h;(try simp at h');first|done|simp[h,h']|simp))))
 all_goals simp_all
theorem aHE (x t:Int):Cf En 222 [.d (.int .i64 x),.ptr 1000000 0 0] [.var [.d (.int .i64 t)]] (.d (.bool (x != t))) [.var [.d (.int .i64 t)]]:=by
 refine cI aW (fn:=Tryz.f222) rfl ?_
 simp
 all_goals exact gz
def CU (t:Int) (l:List Int):Int:=match l.findIdx? (fun x=>x != t) with
 | some i=>i
 | none=>-1
theorem aDR (l:List Int) (hl:l.length≤1000) (t:Int):Cf En 126 [.d (.sl (aD l)),.clo 222 [.ptr 1000000 0 0]] [.var [.d (.int .i64 t)]] (.d (.int .i64 (CU t l))) [.var [.d (.int .i64 t)]]:=by
 refine cI aW (fn:=Tryz.f126) rfl ?_
 simp [aD]
 (repeat' (first|contradiction|exact .ok|apply And.intro|intro _|(refine gc (fun h=>?_) (fun h=>?_)<;>(have h':=h;(try simp at h');first|done|simp[h,h']|simp))))
 refine aL aW (fun i:Nat=>{ s:=cE [(0,.d (.sl (aD l))),(1,.clo 222 [.ptr 1000000 0 0]),(7,.d (.int .i64 l.length)),(8,.d (.int .i64 i))],b:=cC [(1000000,1000000,.var [.d (.int .i64 t)])] }) (fun i:Nat=>i≤l.length∧∀ j (h:j<l.length),j<i→l[j]=t) (fun i=>l.length - i) 0 (by simp) (aI _ [(1000000,1000000,_)] ⟨by simp,by simp,by simp [aB,Blk.live],bK⟩ (by simp [aB,aD])) ?_
 rintro i ⟨hi,ho⟩
 by_cases hlt:i<l.length
 ·have hlt':(i:Int)<l.length:=by omega
  have hg:l[i]?=some l[i]:=gE hlt
  simp [hlt,hlt',aD]
  (repeat' (first|contradiction|exact .ok|apply And.intro|intro _|(refine gc (fun h=>?_) (fun h=>?_)<;>(have h':=h;(try simp at h');first|done|simp[h,h']|simp))))
  refine aH [1000000] (aHE l[i] t) (by simp) (by simp) ?_
  by_cases hx:l[i]=t
  ·simp [hx]
   (repeat' (first|contradiction|exact .ok|apply And.intro|intro _|(refine gc (fun h=>?_) (fun h=>?_)<;>(have h':=h;(try simp at h');first|done|simp[h,h']|simp))))
   refine ⟨i+1,⟨hlt,?_⟩,?_,?_⟩
   ·intro j hj hji
    rcases Nat.lt_or_ge j i with c | c
    ·exact ho j hj c
    ·have:j=i:=by omega
     subst this; exact hx
   ·refine aI _ [(1000000,1000000,_)] ⟨by simp,by simp,by simp [aB,Blk.live],bK⟩ ?_
    simp [aB]
    exact bL (by omega) (by omega)
   ·simp; omega
  ·have hf:CU t l=i:=by
    unfold CU
    have:l.findIdx? (fun x=>x != t)=some i:=by
     rw [List.findIdx?_eq_some_iff_getElem]
     exact ⟨hlt,by simp [hx],fun j hj=>by simp [ho j (by omega) hj]⟩
    rw [this]
   simp [hx,hf]
   all_goals exact gz
 ·have hf:CU t l=-1:=by
   unfold CU
   have:l.findIdx? (fun x=>x != t)=none:=by
    rw [List.findIdx?_eq_none_iff]
    intro x hx
    obtain ⟨j,hj,rfl⟩:=List.getElem_of_mem hx
    simp [ho j hj (by omega)]
   rw [this]
  simp [hlt,hf]
  all_goals exact gz
theorem YJ (t:Int) (l:List Int):decide (CU t l≥0)=!l.all (·==t):=by
 unfold CU
 cases h:l.findIdx? (fun x=>x != t) with
 | none =>
   rw [List.findIdx?_eq_none_iff] at h
   have:l.all (·==t)=true:=by rw [List.all_eq_true]; intro x hx; have:=h x hx; simpa using this
   simp [this]
 | some i =>
   rw [List.findIdx?_eq_some_iff_getElem] at h
   obtain ⟨hi,h,_⟩:=h
   have:l.all (·==t)=false:=by
    rw [List.all_eq_false]
    exact ⟨l[i],List.getElem_mem hi,by simpa using h⟩
   simp [this]
theorem SG (l:List Int) (hl:l.length≤1000) (t:Int):Cf En 83 [.d (.sl (aD l)),.clo 222 [.ptr 1000000 0 0]] [.var [.d (.int .i64 t)]] (.d (.bool (!l.all (·==t)))) [.var [.d (.int .i64 t)]]:=by
 refine cI aW (fn:=Tryz.f83) rfl ?_
 simp
 (repeat' (first|contradiction|exact .ok|apply And.intro|intro _|(refine gc (fun h=>?_) (fun h=>?_)<;>(have h':=h;(try simp at h');first|done|simp[h,h']|simp))))
 refine aH [1000000] (aDR l hl t) (by simp) (by simp) ?_
 have:=YJ t l
 simp at this
 simp
 (repeat' (first|contradiction|exact .ok|apply And.intro|intro _|(refine gc (fun h=>?_) (fun h=>?_)<;>(have h':=h;(try simp at h');first|done|simp[h,h']|simp))))
 all_goals simpa using this
theorem zU (l:List Int) (hl:l.length≤1000) (t:Int):Cf En 221 [.d (.int .i64 t),.d (.sl (aD l))] [] (.d (.bool (l.all (·==t)))) []:=by
 refine cI aW (fn:=Tryz.f221) rfl ?_
 simp
 (repeat' (first|contradiction|exact .ok|apply And.intro|intro _|(refine gc (fun h=>?_) (fun h=>?_)<;>(have h':=h;(try simp at h');first|done|simp[h,h']|simp))))
 refine aH [2] (SG l hl t) (by simp) (by simp) ?_
 simp
 all_goals exact gz
theorem aHF (w:List UInt8) (k ty own:Int) (l:List Int) (hl:l.length≤1000) (h4:ty=4→1≤l.length) (h6:ty=6→l.length=3) :
  Cf En 177 [.agg [.d (.str w),.d (.int .i64 k),.d (.int .i64 ty),.d (.int .i64 own)],.d (.sl (aD l))] [] (.d (.bool (fL ty l))) []:=by
 refine cI aW (fn:=Tryz.f177) rfl ?_
 by_cases t1:ty=1
 ·subst t1
  simp [fL]
  (repeat' (first|contradiction|exact .ok|apply And.intro|intro _|(refine gc (fun h=>?_) (fun h=>?_)<;>(have h':=h;(try simp at h');first|done|simp[h,h']|simp))))
  refine aP (zU l hl 1) ?_
  simp
  all_goals exact gz
 by_cases t2:ty=2
 ·subst t2
  simp [fL]
  (repeat' (first|contradiction|exact .ok|apply And.intro|intro _|(refine gc (fun h=>?_) (fun h=>?_)<;>(have h':=h;(try simp at h');first|done|simp[h,h']|simp))))
  refine aP (zU l hl 3) ?_
  simp
  all_goals exact gz
 by_cases t3:ty=3
 ·subst t3
  simp [fL]
  (repeat' (first|contradiction|exact .ok|apply And.intro|intro _|(refine gc (fun h=>?_) (fun h=>?_)<;>(have h':=h;(try simp at h');first|done|simp[h,h']|simp))))
  refine aP (zU l hl 2) ?_
  simp
  all_goals exact gz
 by_cases t4:ty=4
 ·subst t4
  have hg:l[0]?=some (l[0]'(by have:=h4 rfl; omega)):=gE _
  simp [fL,aD,hg]
  (repeat' (first|contradiction|exact .ok|apply And.intro|intro _|(refine gc (fun h=>?_) (fun h=>?_)<;>(have h':=h;(try simp at h');first|done|simp[h,h']|simp))))
  refine aA (zU l hl ((l[0]?).getD 0)) (by simp [aD,hg]) ?_
  simp [hg]
  all_goals exact gz
 by_cases t6:ty=6
 ·subst t6
  obtain ⟨a,b,c,rfl⟩:∃ a b c,l=[a,b,c]:=by
   match l,h6 rfl with
   | [a,b,c],_=>exact ⟨a,b,c,rfl⟩
  simp [fL,aD]
  (repeat' (first|contradiction|exact .ok|apply And.intro|intro _|(refine gc (fun h=>?_) (fun h=>?_)<;>(have h':=h;(try simp at h');first|done|simp[h,h']|simp))))
  all_goals simp_all
 simp [fL,t1,t2,t3,t4,t6]
 (repeat' (first|contradiction|exact .ok|apply And.intro|intro _|(refine gc (fun h=>?_) (fun h=>?_)<;>(have h':=h;(try simp at h');first|done|simp[h,h',t1,t2,t3,t4,t6]|simp[t1,t2,t3,t4,t6]))))
end Go.Proofs.Tryz
