import Derived.Test.YthbnleoonldffaaGreatDoorQCldR
import Derived.Test.YthbnleoonldffaaGreatDoorAbB
set_option linter.all false
namespace Go.Proofs.Tryz
open Go.Ab
set_option maxRecDepth 100000
set_option maxHeartbeats 4000000
theorem qF:∀ (m:Nat) (e:Ex),SizeOf.sizeOf e<m→∀ q,e.few q=true→e.fits
 | 0,_,h,_,_=>absurd h (by omega)
 | m+1,.mk o c n t g ks,hm,q,hq=>by
   obtain ⟨hk,ht,hfew⟩:=gI hq
   rw [Ex.fits]
   refine ⟨by omega,?_⟩
   have:∀ l:List Ex,(∀ e∈l,e.fits)→iO l:=by
    intro l
    induction l with
    | nil=>intro _; trivial
    | cons e es ih=>intro h; exact ⟨h e List.mem_cons_self,ih fun x hx=>h x (List.mem_cons_of_mem _ hx)⟩
   exact this ks fun e he=>qF m e (by have:=Ex.kid_lt (e:=.mk o c n t g ks) (k:=e) he; omega) (q+1) (hfew e he)
theorem XS:∀ (m:Nat) (e:Ex),SizeOf.sizeOf e<m→∀ q,e.few q=true→Cf En 147 [e.a] [] (.d (.int .i64 e.size)) []
 | 0,_,h,_,_=>absurd h (by omega)
 | m+1,.mk o c n t g ks,hm,q,hq=>by
   obtain ⟨hk,ht,hfew⟩:=gI hq
   refine aD aW (fn:=Tryz.f147) (by kernel_rfl) rfl (by kernel_rfl) (by decide) (by simp) ?_
   have hf:Ex.size (.mk o c n t g ks)=dL 1 ks:=by rw [Ex.size]
   rw [hf]
   generalize hres:dL 1 ks=res
   simp [Ex.a,Ex.c,aC]
   (repeat' (first|contradiction|exact .ok|apply And.intro|intro _|(refine gc (fun h=>?_) (fun h=>?_)<;>(have h':=h;(try simp at h');first|done|simp[h,h']|simp))))
   refine aL aW (by decide) (fun p:Nat×Int=>{ s:=cG [(1,.ptr 1 0 0),(3,.d (.int .i64 p.2)),(7,.d (.sl (ks.map Ex.c))),(8,.d (.int .i64 ks.length)),(9,.d (.int .i64 p.1))],b:=cE [(1,1,.var (Ex.a (.mk o c n t g ks)).cells)] }) (fun p=>p.1≤ks.length∧dL p.2 (ks.drop p.1)=res) (fun p=>ks.length - p.1) (0,1) (by simp [hres]) (aE _ _ ⟨by simp,by simp,by simp [aB,Blk.live,Ex.a,Ex.c,aC],by simp⟩ (by simp [aB])) ?_
   rintro ⟨i,acc⟩ ⟨hi,ho⟩
   simp only at hi ho
   by_cases hlt:i<ks.length
   ·have hlt':(i:Int)<ks.length:=by omega
    have hg:ks[i]?=some ks[i]:=List.getElem?_eq_getElem hlt
    have hdr:=uB acc hg
    have hkid:SizeOf.sizeOf ks[i]<m:=by
     have:=Ex.kid_lt (e:=.mk o c n t g ks) (k:=ks[i]) (List.getElem_mem hlt)
     omega
    simp [Ex.a,Ex.c,aC,hlt,hlt',hg,Ex.clen,Ex.ctake]
    (repeat' (first|contradiction|exact .ok|apply And.intro|intro _|(refine gc (fun h=>?_) (fun h=>?_)<;>(have h':=h;(try simp at h');first|done|simp[h,h']|simp))))
    refine aA (XS m ks[i] hkid (q+1) (hfew _ (List.getElem_mem hlt))) (by simp [Ex.a]) ?_
    simp
    (repeat' (first|contradiction|exact .ok|apply And.intro|intro _|(refine gc (fun h=>?_) (fun h=>?_)<;>(have h':=h;(try simp at h');first|done|simp[h,h']|simp))))
    refine ⟨(i+1,IntKind.i64.wrap (acc+ks[i].size)),⟨hlt,?_⟩,?_,?_⟩
    ·rw [← ho,hdr]
    ·refine aE _ [(1,1,_)] ⟨by simp,by simp,by simp [aB,Blk.live,Ex.a,Ex.c,aC],by simp⟩ ?_
     simp [aB]
     exact aH (by omega) (by omega)
    ·simp; omega
   ·have hlt':¬ (i:Int)<ks.length:=by omega
    simp [Ex.a,Ex.c,aC,hlt,hlt']
    (repeat' (first|contradiction|exact .ok|apply And.intro|intro _|(refine gc (fun h=>?_) (fun h=>?_)<;>(have h':=h;(try simp at h');first|done|simp[h,h']|simp))))
    rw [← ho,List.drop_eq_nil_of_le (by omega)]; rfl
mutual
def Ex.dep:Ex→Nat
 | .mk _ _ _ _ _ ks=>eH 0 ks+1
def eH:Nat→List Ex→Nat
 | a,[]=>a
 | a,e::es=>eH (max a e.dep) es
end
theorem wV {l:List Ex} {i:Nat} {x:Ex} (a:Nat) (h:l[i]?=some x):eH a (l.drop i)=eH (max a x.dep) (l.drop (i+1)):=by
 obtain ⟨hi,rfl⟩:=List.getElem?_eq_some_iff.1 h
 rw [List.drop_eq_getElem_cons hi,eH]
theorem DS (b:Nat):∀ (l:List Ex) (a:Nat),a≤b→(∀ e∈l,e.dep≤b)→eH a l≤b
 | [],a,h,_=>h
 | e::es,a,h,hl=>by
   rw [eH]
   exact DS b es _ (by have:=hl e List.mem_cons_self; omega) (fun x hx=>hl x (List.mem_cons_of_mem _ hx))
theorem GO:∀ (m:Nat) (e:Ex),SizeOf.sizeOf e<m→∀ q,e.few q=true→e.dep+q≤61
 | 0,_,h,_,_=>absurd h (by omega)
 | m+1,.mk o c n t g ks,hm,q,hq=>by
   obtain ⟨hk,ht,hfew⟩:=gI hq
   have hq60:q≤60:=by
    rw [Ex.few] at hq
    by_cases h:60<q
    ·simp [h] at hq
    ·omega
   have:=DS (60 - q) ks 0 (by omega) (fun e he=>by
    have:=GO m e (by have:=Ex.kid_lt (e:=.mk o c n t g ks) (k:=e) he; omega) (q+1) (hfew e he)
    omega)
   rw [Ex.dep]
   omega
theorem QW:∀ (m:Nat) (e:Ex),SizeOf.sizeOf e<m→∀ q,e.few q=true→Cf En 186 [e.a] [] (.d (.int .i64 e.dep)) []
 | 0,_,h,_,_=>absurd h (by omega)
 | m+1,.mk o c n t g ks,hm,q,hq=>by
   obtain ⟨hk,ht,hfew⟩:=gI hq
   have hdep:=GO _ _ (Nat.lt_succ_self _) q hq
   refine aD aW (fn:=Tryz.f186) (by kernel_rfl) rfl (by kernel_rfl) (by decide) (by simp) ?_
   rw [Ex.dep] at hdep ⊢
   generalize hres:eH 0 ks=res at *
   simp [Ex.a,Ex.c,aC]
   (repeat' (first|contradiction|exact .ok|apply And.intro|intro _|(refine gc (fun h=>?_) (fun h=>?_)<;>(have h':=h;(try simp at h');first|done|simp[h,h']|simp))))
   refine aL aW (by decide) (fun p:Nat×Nat=>{ s:=cG [(1,.ptr 1 0 0),(3,.d (.int .i64 p.2)),(7,.d (.sl (ks.map Ex.c))),(8,.d (.int .i64 ks.length)),(9,.d (.int .i64 p.1))],b:=cE [(1,1,.var (Ex.a (.mk o c n t g ks)).cells)] }) (fun p=>p.1≤ks.length∧eH p.2 (ks.drop p.1)=res) (fun p=>ks.length - p.1) (0,0) (by simp [hres]) (aE _ _ ⟨by simp,by simp,by simp [aB,Blk.live,Ex.a,Ex.c,aC],by simp⟩ (by simp [aB])) ?_
   rintro ⟨i,acc⟩ ⟨hi,ho⟩
   simp only at hi ho
   by_cases hlt:i<ks.length
   ·have hlt':(i:Int)<ks.length:=by omega
    have hg:ks[i]?=some ks[i]:=List.getElem?_eq_getElem hlt
    have hdr:=wV acc hg
    have hkid:SizeOf.sizeOf ks[i]<m:=by
     have:=Ex.kid_lt (e:=.mk o c n t g ks) (k:=ks[i]) (List.getElem_mem hlt)
     omega
    have hmax:(if (acc:Int)<ks[i].dep then (ks[i].dep:Int) else acc)=((max acc ks[i].dep:Nat):Int):=by split <;> omega
    simp [Ex.a,Ex.c,aC,hlt,hlt',hg,Ex.clen,Ex.ctake]
    (repeat' (first|contradiction|exact .ok|apply And.intro|intro _|(refine gc (fun h=>?_) (fun h=>?_)<;>(have h':=h;(try simp at h');first|done|simp[h,h']|simp))))
    refine aA (QW m ks[i] hkid (q+1) (hfew _ (List.getElem_mem hlt))) (by simp [Ex.a]) ?_
    simp
    (repeat' (first|contradiction|exact .ok|apply And.intro|intro _|(refine gc (fun h=>?_) (fun h=>?_)<;>(have h':=h;(try simp at h');first|done|simp[h,h']|simp))))
    refine ⟨(i+1,max acc ks[i].dep),⟨hlt,?_⟩,?_,?_⟩
    ·rw [← ho,hdr]
    ·refine aE _ [(1,1,_)] ⟨by simp,by simp,by simp [aB,Blk.live,Ex.a,Ex.c,aC],by simp⟩ ?_
     simp [aB]
     refine ⟨?_,aH (by omega) (by omega)⟩
     split <;> omega
    ·simp; omega
   ·have hlt':¬ (i:Int)<ks.length:=by omega
    have hacc:acc=res:=by
     rw [← ho,List.drop_eq_nil_of_le (by omega)]; rfl
    have hw:=aH (n:=(acc:Int)+1) (by omega) (by omega)
    simp [Ex.a,Ex.c,aC,hlt,hlt',hw]
    (repeat' (first|contradiction|exact .ok|apply And.intro|intro _|(refine gc (fun h=>?_) (fun h=>?_)<;>(have h':=h;(try simp at h');first|done|simp[h,h']|simp))))
    all_goals omega
theorem JZ:∀ (m:Nat) (e:Ex),SizeOf.sizeOf e<m→∀ q,e.few q=true→Cf En 132 [e.a] [] (.d (.int .i64 e.dep)) []
 | 0,_,h,_,_=>absurd h (by omega)
 | m+1,.mk o c n t g ks,hm,q,hq=>by
   obtain ⟨hk,ht,hfew⟩:=gI hq
   have hdep:=GO _ _ (Nat.lt_succ_self _) q hq
   refine aD aW (fn:=Tryz.f132) (by kernel_rfl) rfl (by kernel_rfl) (by decide) (by simp) ?_
   rw [Ex.dep] at hdep ⊢
   generalize hres:eH 0 ks=res at *
   simp [Ex.a,Ex.c,aC]
   (repeat' (first|contradiction|exact .ok|apply And.intro|intro _|(refine gc (fun h=>?_) (fun h=>?_)<;>(have h':=h;(try simp at h');first|done|simp[h,h']|simp))))
   refine aL aW (by decide) (fun p:Nat×Nat=>{ s:=cG [(1,.ptr 1 0 0),(3,.d (.int .i64 p.2)),(4,.d (.int .i64 p.1))],b:=cE [(1,1,.var (Ex.a (.mk o c n t g ks)).cells)] }) (fun p=>p.1≤ks.length∧eH p.2 (ks.drop p.1)=res) (fun p=>ks.length - p.1) (0,0) (by simp [hres]) (aE _ _ ⟨by simp,by simp,by simp [aB,Blk.live,Ex.a,Ex.c,aC],by simp⟩ (by simp [aB])) ?_
   rintro ⟨i,acc⟩ ⟨hi,ho⟩
   simp only at hi ho
   by_cases hlt:i<ks.length
   ·have hlt':(i:Int)<ks.length:=by omega
    have hg:ks[i]?=some ks[i]:=List.getElem?_eq_getElem hlt
    have hdr:=wV acc hg
    have hkid:SizeOf.sizeOf ks[i]<m:=by
     have:=Ex.kid_lt (e:=.mk o c n t g ks) (k:=ks[i]) (List.getElem_mem hlt)
     omega
    have hmax:(if (acc:Int)<ks[i].dep then (ks[i].dep:Int) else acc)=((max acc ks[i].dep:Nat):Int):=by split <;> omega
    simp [Ex.a,Ex.c,aC,hlt,hlt',hg,Ex.clen,Ex.ctake]
    (repeat' (first|contradiction|exact .ok|apply And.intro|intro _|(refine gc (fun h=>?_) (fun h=>?_)<;>(have h':=h;(try simp at h');first|done|simp[h,h']|simp))))
    refine aA (JZ m ks[i] hkid (q+1) (hfew _ (List.getElem_mem hlt))) (by simp [Ex.a]) ?_
    simp
    (repeat' (first|contradiction|exact .ok|apply And.intro|intro _|(refine gc (fun h=>?_) (fun h=>?_)<;>(have h':=h;(try simp at h');first|done|simp[h,h']|simp))))
    refine ⟨(i+1,max acc ks[i].dep),⟨hlt,?_⟩,?_,?_⟩
    ·rw [← ho,hdr]
    ·refine aE _ [(1,1,_)] ⟨by simp,by simp,by simp [aB,Blk.live,Ex.a,Ex.c,aC],by simp⟩ ?_
     simp [aB]
     refine ⟨?_,aH (by omega) (by omega)⟩
     split <;> omega
    ·simp; omega
   ·have hlt':¬ (i:Int)<ks.length:=by omega
    have hacc:acc=res:=by
     rw [← ho,List.drop_eq_nil_of_le (by omega)]; rfl
    have hw:=aH (n:=(acc:Int)+1) (by omega) (by omega)
    simp [Ex.a,Ex.c,aC,hlt,hlt',hw]
    (repeat' (first|contradiction|exact .ok|apply And.intro|intro _|(refine gc (fun h=>?_) (fun h=>?_)<;>(have h':=h;(try simp at h');first|done|simp[h,h']|simp))))
    all_goals omega
theorem AE (t:Int):Cf En 258 [.d (.int .i64 t)] [] (.d (.bool (t==1||(t==2||t==3)))) []:=by
 refine aD aW (fn:=Tryz.f258) (by kernel_rfl) rfl (by kernel_rfl) (by decide) (by simp) ?_
 simp
 (repeat' (first|contradiction|exact .ok|apply And.intro|intro _|(refine gc (fun h=>?_) (fun h=>?_)<;>(have h':=h;(try simp at h');first|done|simp[h,h']|simp))))
 all_goals simp_all
theorem aFg (x t:Int):Cf En 331 [.d (.int .i64 x),.ptr 1000000 0 0] [.var [.d (.int .i64 t)]] (.d (.bool (x != t))) [.var [.d (.int .i64 t)]]:=by
 refine aD aW (fn:=Tryz.f331) (by kernel_rfl) rfl (by kernel_rfl) (by decide) (by simp) ?_
 simp
 all_goals exact gz
def AF (t:Int) (l:List Int):Int:=match l.findIdx? (fun x=>x != t) with
 | some i=>i
 | none=>-1
theorem aBI (l:List Int) (hl:l.length≤1000) (t:Int):Cf En 285 [.d (.sl (aG l)),.clo 331 [.ptr 1000000 0 0]] [.var [.d (.int .i64 t)]] (.d (.int .i64 (AF t l))) [.var [.d (.int .i64 t)]]:=by
 refine aD aW (fn:=Tryz.f285) (by kernel_rfl) rfl (by kernel_rfl) (by decide) (by simp) ?_
 simp [aG]
 (repeat' (first|contradiction|exact .ok|apply And.intro|intro _|(refine gc (fun h=>?_) (fun h=>?_)<;>(have h':=h;(try simp at h');first|done|simp[h,h']|simp))))
 refine aL aW (by decide) (fun i:Nat=>{ s:=cG [(0,.d (.sl (aG l))),(1,.clo 331 [.ptr 1000000 0 0]),(7,.d (.int .i64 l.length)),(8,.d (.int .i64 i))],b:=cE [(1000000,1000000,.var [.d (.int .i64 t)])] }) (fun i:Nat=>i≤l.length∧∀ j (h:j<l.length),j<i→l[j]=t) (fun i=>l.length - i) 0 (by simp) (aE _ [(1000000,1000000,_)] ⟨by simp,by simp,by simp [aB,Blk.live],bT⟩ (by simp [aB,aG])) ?_
 rintro i ⟨hi,ho⟩
 by_cases hlt:i<l.length
 ·have hlt':(i:Int)<l.length:=by omega
  have hg:l[i]?=some l[i]:=List.getElem?_eq_getElem hlt
  simp [hlt,hlt',aG,hg]
  (repeat' (first|contradiction|exact .ok|apply And.intro|intro _|(refine gc (fun h=>?_) (fun h=>?_)<;>(have h':=h;(try simp at h');first|done|simp[h,h']|simp))))
  refine aK [1000000] (aFg l[i] t) (by simp) (by simp) (by simp) (by simp) (by simp) ?_
  by_cases hx:l[i]=t
  ·simp [hx]
   (repeat' (first|contradiction|exact .ok|apply And.intro|intro _|(refine gc (fun h=>?_) (fun h=>?_)<;>(have h':=h;(try simp at h');first|done|simp[h,h']|simp))))
   refine ⟨i+1,⟨hlt,?_⟩,?_,?_⟩
   ·intro j hj hji
    rcases Nat.lt_or_ge j i with c | c
    ·exact ho j hj c
    ·have:j=i:=by omega
     subst this; exact hx
   ·refine aE _ [(1000000,1000000,_)] ⟨by simp,by simp,by simp [aB,Blk.live],bT⟩ ?_
    simp [aB,aG]
    exact aH (by omega) (by omega)
   ·simp; omega
  ·have hf:AF t l=i:=by
    unfold AF
    have:l.findIdx? (fun x=>x != t)=some i:=by
     rw [List.findIdx?_eq_some_iff_getElem]
     exact ⟨hlt,by simp [hx],fun j hj=>by simp [ho j (by omega) hj]⟩
    rw [this]
   simp [hx,hf]
   all_goals exact gz
 ·have hf:AF t l=-1:=by
   unfold AF
   have:l.findIdx? (fun x=>x != t)=none:=by
    rw [List.findIdx?_eq_none_iff]
    intro x hx
    obtain ⟨j,hj,rfl⟩:=List.getElem_of_mem hx
    simp [ho j hj (by omega)]
   rw [this]
  simp [hlt,hf]
  all_goals exact gz
theorem UA (t:Int) (l:List Int):decide (AF t l≥0)=!l.all (·==t):=by
 unfold AF
 cases h:l.findIdx? (fun x=>x != t) with
 | none =>
   rw [List.findIdx?_eq_none_iff] at h
   have:l.all (·==t)=true:=by rw [List.all_eq_true]; intro x hx; have:=h x hx; simpa using this
   simp [this]
 | some i =>
   rw [List.findIdx?_eq_some_iff_getElem] at h
   obtain ⟨hi,h,_⟩:=h
   have:l.all (·==t)=false:=by
    rw [List.all_eq_false]
    exact ⟨l[i],List.getElem_mem hi,by simpa using h⟩
   simp [this]
theorem OK (l:List Int) (hl:l.length≤1000) (t:Int):Cf En 211 [.d (.sl (aG l)),.clo 331 [.ptr 1000000 0 0]] [.var [.d (.int .i64 t)]] (.d (.bool (!l.all (·==t)))) [.var [.d (.int .i64 t)]]:=by
 refine aD aW (fn:=Tryz.f211) (by kernel_rfl) rfl (by kernel_rfl) (by decide) (by simp) ?_
 simp
 (repeat' (first|contradiction|exact .ok|apply And.intro|intro _|(refine gc (fun h=>?_) (fun h=>?_)<;>(have h':=h;(try simp at h');first|done|simp[h,h']|simp))))
 refine aK [1000000] (aBI l hl t) (by simp) (by simp) (by simp) (by simp) (by simp) ?_
 have:=UA t l
 simp at this
 simp
 (repeat' (first|contradiction|exact .ok|apply And.intro|intro _|(refine gc (fun h=>?_) (fun h=>?_)<;>(have h':=h;(try simp at h');first|done|simp[h,h']|simp))))
 all_goals simpa using this
theorem xT (l:List Int) (hl:l.length≤1000) (t:Int):Cf En 330 [.d (.int .i64 t),.d (.sl (aG l))] [] (.d (.bool (l.all (·==t)))) []:=by
 refine aD aW (fn:=Tryz.f330) (by kernel_rfl) rfl (by kernel_rfl) (by decide) (by simp) ?_
 simp
 (repeat' (first|contradiction|exact .ok|apply And.intro|intro _|(refine gc (fun h=>?_) (fun h=>?_)<;>(have h':=h;(try simp at h');first|done|simp[h,h']|simp))))
 refine aK [2] (OK l hl t) (by simp) (by simp) (by simp) (by simp) (by simp) ?_
 simp
 all_goals exact gz
theorem aFh (w:List UInt8) (k ty own:Int) (l:List Int) (hl:l.length≤1000) (h4:ty=4→1≤l.length) (h6:ty=6→l.length=3) :
  Cf En 259 [.agg [.d (.str w),.d (.int .i64 k),.d (.int .i64 ty),.d (.int .i64 own)],.d (.sl (aG l))] [] (.d (.bool (fC ty l))) []:=by
 refine aD aW (fn:=Tryz.f259) (by kernel_rfl) rfl (by kernel_rfl) (by decide) (by simp) ?_
 by_cases t1:ty=1
 ·subst t1
  simp [fC]
  (repeat' (first|contradiction|exact .ok|apply And.intro|intro _|(refine gc (fun h=>?_) (fun h=>?_)<;>(have h':=h;(try simp at h');first|done|simp[h,h']|simp))))
  refine aA (xT l hl 1) (by simp [V.a]) ?_
  simp
  all_goals exact gz
 by_cases t2:ty=2
 ·subst t2
  simp [fC]
  (repeat' (first|contradiction|exact .ok|apply And.intro|intro _|(refine gc (fun h=>?_) (fun h=>?_)<;>(have h':=h;(try simp at h');first|done|simp[h,h']|simp))))
  refine aA (xT l hl 3) (by simp [V.a]) ?_
  simp
  all_goals exact gz
 by_cases t3:ty=3
 ·subst t3
  simp [fC]
  (repeat' (first|contradiction|exact .ok|apply And.intro|intro _|(refine gc (fun h=>?_) (fun h=>?_)<;>(have h':=h;(try simp at h');first|done|simp[h,h']|simp))))
  refine aA (xT l hl 2) (by simp [V.a]) ?_
  simp
  all_goals exact gz
 by_cases t4:ty=4
 ·subst t4
  have hg:l[0]?=some (l[0]'(by have:=h4 rfl; omega)):=List.getElem?_eq_getElem _
  simp [fC,aG,hg]
  (repeat' (first|contradiction|exact .ok|apply And.intro|intro _|(refine gc (fun h=>?_) (fun h=>?_)<;>(have h':=h;(try simp at h');first|done|simp[h,h']|simp))))
  refine aA (xT l hl ((l[0]?).getD 0)) (by simp [aG,hg]) ?_
  simp [hg]
  all_goals exact gz
 by_cases t6:ty=6
 ·subst t6
  obtain ⟨a,b,c,rfl⟩:∃ a b c,l=[a,b,c]:=by
   match l,h6 rfl with
   | [a,b,c],_=>exact ⟨a,b,c,rfl⟩
  simp [fC,aG]
  (repeat' (first|contradiction|exact .ok|apply And.intro|intro _|(refine gc (fun h=>?_) (fun h=>?_)<;>(have h':=h;(try simp at h');first|done|simp[h,h']|simp))))
  all_goals simp_all
 simp [fC,t1,t2,t3,t4,t6]
 (repeat' (first|contradiction|exact .ok|apply And.intro|intro _|(refine gc (fun h=>?_) (fun h=>?_)<;>(have h':=h;(try simp at h');first|done|simp[h,h',t1,t2,t3,t4,t6]|simp[t1,t2,t3,t4,t6]))))
end Go.Proofs.Tryz
