import Derived.Test.YtkkbepgccddjoaaGreatDoorATgt
import Derived.Test.YtkkbepgccddjoaaGreatDoorAbB
set_option linter.all false
namespace Go.Proofs.Tryz
open Go.Ab
set_option maxRecDepth 100000
set_option maxHeartbeats 4000000
theorem fits_few:∀ (m:Nat) (e:Ex),SizeOf.sizeOf e<m→∀ q,e.few q=true→e.fits
 | 0,_,h,_,_=>absurd h (by omega)
 | m+1,.mk o c n t g ks,hm,q,hq=>by
   obtain ⟨hk,ht,hfew⟩:=fewC_kids hq
   rw [Ex.fits]
   refine ⟨by omega,?_⟩
   have:∀ l:List Ex,(∀ e∈l,e.fits)→fitsAll l:=by
    intro l
    induction l with
    | nil=>intro _; trivial
    | cons e es ih=>intro h; exact ⟨h e List.mem_cons_self,ih fun x hx=>h x (List.mem_cons_of_mem _ hx)⟩
   exact this ks fun e he=>fits_few m e (by have:=Ex.kid_lt (e:=.mk o c n t g ks) (k:=e) he; omega) (q+1) (hfew e he)
theorem e_size:∀ (m:Nat) (e:Ex),SizeOf.sizeOf e<m→∀ q,e.few q=true→Cf En 130 [e.a] [] (.d (.int .i64 e.size)) []
 | 0,_,h,_,_=>absurd h (by omega)
 | m+1,.mk o c n t g ks,hm,q,hq=>by
   obtain ⟨hk,ht,hfew⟩:=fewC_kids hq
   refine cf_intro mix (fn:=Tryz.f130) (by kernel_rfl) rfl (by kernel_rfl) (by decide) (by simp) ?_
   have hf:Ex.size (.mk o c n t g ks)=sizeAll 1 ks:=by rw [Ex.size]
   rw [hf]
   generalize hres:sizeAll 1 ks=res
   simp [Ex.a,Ex.c,kidsC_map]
   (repeat' (first|contradiction|exact .ok|apply And.intro|intro _|(refine gc (fun h=>?_) (fun h=>?_)<;>(have h':=h;(try simp at h');first|done|simp[h,h']|simp))))
   refine aloopT mix (by decide) (fun p:Nat×Int=>{ s:=mkS [(1,.ptr 1 0 0),(3,.d (.int .i64 p.2)),(7,.d (.sl (ks.map Ex.c))),(8,.d (.int .i64 ks.length)),(9,.d (.int .i64 p.1))],b:=mkB [(1,1,.var (Ex.a (.mk o c n t g ks)).cells)] }) (fun p=>p.1≤ks.length∧sizeAll p.2 (ks.drop p.1)=res) (fun p=>ks.length - p.1) (0,1) (by simp [hres]) (sub_mk _ _ ⟨by simp,by simp,by simp [renOf,Blk.live,Ex.a,Ex.c,kidsC_map],by simp⟩ (by simp [renOf])) ?_
   rintro ⟨i,acc⟩ ⟨hi,ho⟩
   simp only at hi ho
   by_cases hlt:i<ks.length
   ·have hlt':(i:Int)<ks.length:=by omega
    have hg:ks[i]?=some ks[i]:=List.getElem?_eq_getElem hlt
    have hdr:=sizeAll_drop acc hg
    have hkid:SizeOf.sizeOf ks[i]<m:=by
     have:=Ex.kid_lt (e:=.mk o c n t g ks) (k:=ks[i]) (List.getElem_mem hlt)
     omega
    simp [Ex.a,Ex.c,kidsC_map,hlt,hlt',hg,Ex.clen,Ex.ctake]
    (repeat' (first|contradiction|exact .ok|apply And.intro|intro _|(refine gc (fun h=>?_) (fun h=>?_)<;>(have h':=h;(try simp at h');first|done|simp[h,h']|simp))))
    refine acallT_plain (e_size m ks[i] hkid (q+1) (hfew _ (List.getElem_mem hlt))) (by simp [Ex.a]) ?_
    simp
    (repeat' (first|contradiction|exact .ok|apply And.intro|intro _|(refine gc (fun h=>?_) (fun h=>?_)<;>(have h':=h;(try simp at h');first|done|simp[h,h']|simp))))
    refine ⟨(i+1,IntKind.i64.wrap (acc+ks[i].size)),⟨hlt,?_⟩,?_,?_⟩
    ·rw [← ho,hdr]
    ·refine sub_mk _ [(1,1,_)] ⟨by simp,by simp,by simp [renOf,Blk.live,Ex.a,Ex.c,kidsC_map],by simp⟩ ?_
     simp [renOf]
     exact wrap_in (by omega) (by omega)
    ·simp; omega
   ·have hlt':¬ (i:Int)<ks.length:=by omega
    simp [Ex.a,Ex.c,kidsC_map,hlt,hlt']
    (repeat' (first|contradiction|exact .ok|apply And.intro|intro _|(refine gc (fun h=>?_) (fun h=>?_)<;>(have h':=h;(try simp at h');first|done|simp[h,h']|simp))))
    rw [← ho,List.drop_eq_nil_of_le (by omega)]; rfl
mutual
def Ex.dep:Ex→Nat
 | .mk _ _ _ _ _ ks=>depAll 0 ks+1
def depAll:Nat→List Ex→Nat
 | a,[]=>a
 | a,e::es=>depAll (max a e.dep) es
end
theorem depAll_drop {l:List Ex} {i:Nat} {x:Ex} (a:Nat) (h:l[i]?=some x):depAll a (l.drop i)=depAll (max a x.dep) (l.drop (i+1)):=by
 obtain ⟨hi,rfl⟩:=List.getElem?_eq_some_iff.1 h
 rw [List.drop_eq_getElem_cons hi,depAll]
theorem depAll_le (b:Nat):∀ (l:List Ex) (a:Nat),a≤b→(∀ e∈l,e.dep≤b)→depAll a l≤b
 | [],a,h,_=>h
 | e::es,a,h,hl=>by
   rw [depAll]
   exact depAll_le b es _ (by have:=hl e List.mem_cons_self; omega) (fun x hx=>hl x (List.mem_cons_of_mem _ hx))
theorem dep_few:∀ (m:Nat) (e:Ex),SizeOf.sizeOf e<m→∀ q,e.few q=true→e.dep+q≤61
 | 0,_,h,_,_=>absurd h (by omega)
 | m+1,.mk o c n t g ks,hm,q,hq=>by
   obtain ⟨hk,ht,hfew⟩:=fewC_kids hq
   have hq60:q≤60:=by
    rw [Ex.few] at hq
    by_cases h:60<q
    ·simp [h] at hq
    ·omega
   have:=depAll_le (60 - q) ks 0 (by omega) (fun e he=>by
    have:=dep_few m e (by have:=Ex.kid_lt (e:=.mk o c n t g ks) (k:=e) he; omega) (q+1) (hfew e he)
    omega)
   rw [Ex.dep]
   omega
theorem e_depth:∀ (m:Nat) (e:Ex),SizeOf.sizeOf e<m→∀ q,e.few q=true→Cf En 131 [e.a] [] (.d (.int .i64 e.dep)) []
 | 0,_,h,_,_=>absurd h (by omega)
 | m+1,.mk o c n t g ks,hm,q,hq=>by
   obtain ⟨hk,ht,hfew⟩:=fewC_kids hq
   have hdep:=dep_few _ _ (Nat.lt_succ_self _) q hq
   refine cf_intro mix (fn:=Tryz.f131) (by kernel_rfl) rfl (by kernel_rfl) (by decide) (by simp) ?_
   rw [Ex.dep] at hdep ⊢
   generalize hres:depAll 0 ks=res at *
   simp [Ex.a,Ex.c,kidsC_map]
   (repeat' (first|contradiction|exact .ok|apply And.intro|intro _|(refine gc (fun h=>?_) (fun h=>?_)<;>(have h':=h;(try simp at h');first|done|simp[h,h']|simp))))
   refine aloopT mix (by decide) (fun p:Nat×Nat=>{ s:=mkS [(1,.ptr 1 0 0),(3,.d (.int .i64 p.2)),(7,.d (.sl (ks.map Ex.c))),(8,.d (.int .i64 ks.length)),(9,.d (.int .i64 p.1))],b:=mkB [(1,1,.var (Ex.a (.mk o c n t g ks)).cells)] }) (fun p=>p.1≤ks.length∧depAll p.2 (ks.drop p.1)=res) (fun p=>ks.length - p.1) (0,0) (by simp [hres]) (sub_mk _ _ ⟨by simp,by simp,by simp [renOf,Blk.live,Ex.a,Ex.c,kidsC_map],by simp⟩ (by simp [renOf])) ?_
   rintro ⟨i,acc⟩ ⟨hi,ho⟩
   simp only at hi ho
   by_cases hlt:i<ks.length
   ·have hlt':(i:Int)<ks.length:=by omega
    have hg:ks[i]?=some ks[i]:=List.getElem?_eq_getElem hlt
    have hdr:=depAll_drop acc hg
    have hkid:SizeOf.sizeOf ks[i]<m:=by
     have:=Ex.kid_lt (e:=.mk o c n t g ks) (k:=ks[i]) (List.getElem_mem hlt)
     omega
    have hmax:(if (acc:Int)<ks[i].dep then (ks[i].dep:Int) else acc)=((max acc ks[i].dep:Nat):Int):=by split <;> omega
    simp [Ex.a,Ex.c,kidsC_map,hlt,hlt',hg,Ex.clen,Ex.ctake]
    (repeat' (first|contradiction|exact .ok|apply And.intro|intro _|(refine gc (fun h=>?_) (fun h=>?_)<;>(have h':=h;(try simp at h');first|done|simp[h,h']|simp))))
    refine acallT_plain (e_depth m ks[i] hkid (q+1) (hfew _ (List.getElem_mem hlt))) (by simp [Ex.a]) ?_
    simp
    (repeat' (first|contradiction|exact .ok|apply And.intro|intro _|(refine gc (fun h=>?_) (fun h=>?_)<;>(have h':=h;(try simp at h');first|done|simp[h,h']|simp))))
    refine ⟨(i+1,max acc ks[i].dep),⟨hlt,?_⟩,?_,?_⟩
    ·rw [← ho,hdr]
    ·refine sub_mk _ [(1,1,_)] ⟨by simp,by simp,by simp [renOf,Blk.live,Ex.a,Ex.c,kidsC_map],by simp⟩ ?_
     simp [renOf]
     refine ⟨?_,wrap_in (by omega) (by omega)⟩
     split <;> omega
    ·simp; omega
   ·have hlt':¬ (i:Int)<ks.length:=by omega
    have hacc:acc=res:=by
     rw [← ho,List.drop_eq_nil_of_le (by omega)]; rfl
    have hw:=wrap_in (n:=(acc:Int)+1) (by omega) (by omega)
    simp [Ex.a,Ex.c,kidsC_map,hlt,hlt',hw]
    (repeat' (first|contradiction|exact .ok|apply And.intro|intro _|(refine gc (fun h=>?_) (fun h=>?_)<;>(have h':=h;(try simp at h');first|done|simp[h,h']|simp))))
    all_goals omega
theorem rx_depth:∀ (m:Nat) (e:Ex),SizeOf.sizeOf e<m→∀ q,e.few q=true→Cf En 146 [e.a] [] (.d (.int .i64 e.dep)) []
 | 0,_,h,_,_=>absurd h (by omega)
 | m+1,.mk o c n t g ks,hm,q,hq=>by
   obtain ⟨hk,ht,hfew⟩:=fewC_kids hq
   have hdep:=dep_few _ _ (Nat.lt_succ_self _) q hq
   refine cf_intro mix (fn:=Tryz.f146) (by kernel_rfl) rfl (by kernel_rfl) (by decide) (by simp) ?_
   rw [Ex.dep] at hdep ⊢
   generalize hres:depAll 0 ks=res at *
   simp [Ex.a,Ex.c,kidsC_map]
   (repeat' (first|contradiction|exact .ok|apply And.intro|intro _|(refine gc (fun h=>?_) (fun h=>?_)<;>(have h':=h;(try simp at h');first|done|simp[h,h']|simp))))
   refine aloopT mix (by decide) (fun p:Nat×Nat=>{ s:=mkS [(1,.ptr 1 0 0),(3,.d (.int .i64 p.2)),(4,.d (.int .i64 p.1))],b:=mkB [(1,1,.var (Ex.a (.mk o c n t g ks)).cells)] }) (fun p=>p.1≤ks.length∧depAll p.2 (ks.drop p.1)=res) (fun p=>ks.length - p.1) (0,0) (by simp [hres]) (sub_mk _ _ ⟨by simp,by simp,by simp [renOf,Blk.live,Ex.a,Ex.c,kidsC_map],by simp⟩ (by simp [renOf])) ?_
   rintro ⟨i,acc⟩ ⟨hi,ho⟩
   simp only at hi ho
   by_cases hlt:i<ks.length
   ·have hlt':(i:Int)<ks.length:=by omega
    have hg:ks[i]?=some ks[i]:=List.getElem?_eq_getElem hlt
    have hdr:=depAll_drop acc hg
    have hkid:SizeOf.sizeOf ks[i]<m:=by
     have:=Ex.kid_lt (e:=.mk o c n t g ks) (k:=ks[i]) (List.getElem_mem hlt)
     omega
    have hmax:(if (acc:Int)<ks[i].dep then (ks[i].dep:Int) else acc)=((max acc ks[i].dep:Nat):Int):=by split <;> omega
    simp [Ex.a,Ex.c,kidsC_map,hlt,hlt',hg,Ex.clen,Ex.ctake]
    (repeat' (first|contradiction|exact .ok|apply And.intro|intro _|(refine gc (fun h=>?_) (fun h=>?_)<;>(have h':=h;(try simp at h');first|done|simp[h,h']|simp))))
    refine acallT_plain (rx_depth m ks[i] hkid (q+1) (hfew _ (List.getElem_mem hlt))) (by simp [Ex.a]) ?_
    simp
    (repeat' (first|contradiction|exact .ok|apply And.intro|intro _|(refine gc (fun h=>?_) (fun h=>?_)<;>(have h':=h;(try simp at h');first|done|simp[h,h']|simp))))
    refine ⟨(i+1,max acc ks[i].dep),⟨hlt,?_⟩,?_,?_⟩
    ·rw [← ho,hdr]
    ·refine sub_mk _ [(1,1,_)] ⟨by simp,by simp,by simp [renOf,Blk.live,Ex.a,Ex.c,kidsC_map],by simp⟩ ?_
     simp [renOf]
     refine ⟨?_,wrap_in (by omega) (by omega)⟩
     split <;> omega
    ·simp; omega
   ·have hlt':¬ (i:Int)<ks.length:=by omega
    have hacc:acc=res:=by
     rw [← ho,List.drop_eq_nil_of_le (by omega)]; rfl
    have hw:=wrap_in (n:=(acc:Int)+1) (by omega) (by omega)
    simp [Ex.a,Ex.c,kidsC_map,hlt,hlt',hw]
    (repeat' (first|contradiction|exact .ok|apply And.intro|intro _|(refine gc (fun h=>?_) (fun h=>?_)<;>(have h':=h;(try simp at h');first|done|simp[h,h']|simp))))
    all_goals omega
theorem e_isType (t:Int):Cf En 176 [.d (.int .i64 t)] [] (.d (.bool (t==1||(t==2||t==3)))) []:=by
 refine cf_intro mix (fn:=Tryz.f176) (by kernel_rfl) rfl (by kernel_rfl) (by decide) (by simp) ?_
 simp
 (repeat' (first|contradiction|exact .ok|apply And.intro|intro _|(refine gc (fun h=>?_) (fun h=>?_)<;>(have h':=h;(try simp at h');first|done|simp[h,h']|simp))))
 all_goals simp_all
theorem f_one (x t:Int):Cf En 222 [.d (.int .i64 x),.ptr 1000000 0 0] [.var [.d (.int .i64 t)]] (.d (.bool (x != t))) [.var [.d (.int .i64 t)]]:=by
 refine cf_intro mix (fn:=Tryz.f222) (by kernel_rfl) rfl (by kernel_rfl) (by decide) (by simp) ?_
 simp
 all_goals exact gz
def idxNe (t:Int) (l:List Int):Int:=match l.findIdx? (fun x=>x != t) with
 | some i=>i
 | none=>-1
theorem f_index (l:List Int) (hl:l.length≤1000) (t:Int):Cf En 126 [.d (.sl (ints l)),.clo 222 [.ptr 1000000 0 0]] [.var [.d (.int .i64 t)]] (.d (.int .i64 (idxNe t l))) [.var [.d (.int .i64 t)]]:=by
 refine cf_intro mix (fn:=Tryz.f126) (by kernel_rfl) rfl (by kernel_rfl) (by decide) (by simp) ?_
 simp [ints]
 (repeat' (first|contradiction|exact .ok|apply And.intro|intro _|(refine gc (fun h=>?_) (fun h=>?_)<;>(have h':=h;(try simp at h');first|done|simp[h,h']|simp))))
 refine aloopT mix (by decide) (fun i:Nat=>{ s:=mkS [(0,.d (.sl (ints l))),(1,.clo 222 [.ptr 1000000 0 0]),(7,.d (.int .i64 l.length)),(8,.d (.int .i64 i))],b:=mkB [(1000000,1000000,.var [.d (.int .i64 t)])] }) (fun i:Nat=>i≤l.length∧∀ j (h:j<l.length),j<i→l[j]=t) (fun i=>l.length - i) 0 (by simp) (sub_mk _ [(1000000,1000000,_)] ⟨by simp,by simp,by simp [renOf,Blk.live],base1⟩ (by simp [renOf,ints])) ?_
 rintro i ⟨hi,ho⟩
 by_cases hlt:i<l.length
 ·have hlt':(i:Int)<l.length:=by omega
  have hg:l[i]?=some l[i]:=List.getElem?_eq_getElem hlt
  simp [hlt,hlt',ints,hg]
  (repeat' (first|contradiction|exact .ok|apply And.intro|intro _|(refine gc (fun h=>?_) (fun h=>?_)<;>(have h':=h;(try simp at h');first|done|simp[h,h']|simp))))
  refine acallT_hand [1000000] (f_one l[i] t) (by simp) (by simp) (by simp) (by simp) (by simp) ?_
  by_cases hx:l[i]=t
  ·simp [hx]
   (repeat' (first|contradiction|exact .ok|apply And.intro|intro _|(refine gc (fun h=>?_) (fun h=>?_)<;>(have h':=h;(try simp at h');first|done|simp[h,h']|simp))))
   refine ⟨i+1,⟨hlt,?_⟩,?_,?_⟩
   ·intro j hj hji
    rcases Nat.lt_or_ge j i with c | c
    ·exact ho j hj c
    ·have:j=i:=by omega
     subst this; exact hx
   ·refine sub_mk _ [(1000000,1000000,_)] ⟨by simp,by simp,by simp [renOf,Blk.live],base1⟩ ?_
    simp [renOf,ints]
    exact wrap_in (by omega) (by omega)
   ·simp; omega
  ·have hf:idxNe t l=i:=by
    unfold idxNe
    have:l.findIdx? (fun x=>x != t)=some i:=by
     rw [List.findIdx?_eq_some_iff_getElem]
     exact ⟨hlt,by simp [hx],fun j hj=>by simp [ho j (by omega) hj]⟩
    rw [this]
   simp [hx,hf]
   all_goals exact gz
 ·have hf:idxNe t l=-1:=by
   unfold idxNe
   have:l.findIdx? (fun x=>x != t)=none:=by
    rw [List.findIdx?_eq_none_iff]
    intro x hx
    obtain ⟨j,hj,rfl⟩:=List.getElem_of_mem hx
    simp [ho j hj (by omega)]
   rw [this]
  simp [hlt,hf]
  all_goals exact gz
theorem idxNe_all (t:Int) (l:List Int):decide (idxNe t l≥0)=!l.all (·==t):=by
 unfold idxNe
 cases h:l.findIdx? (fun x=>x != t) with
 | none =>
   rw [List.findIdx?_eq_none_iff] at h
   have:l.all (·==t)=true:=by rw [List.all_eq_true]; intro x hx; have:=h x hx; simpa using this
   simp [this]
 | some i =>
   rw [List.findIdx?_eq_some_iff_getElem] at h
   obtain ⟨hi,h,_⟩:=h
   have:l.all (·==t)=false:=by
    rw [List.all_eq_false]
    exact ⟨l[i],List.getElem_mem hi,by simpa using h⟩
   simp [this]
theorem f_contains (l:List Int) (hl:l.length≤1000) (t:Int):Cf En 83 [.d (.sl (ints l)),.clo 222 [.ptr 1000000 0 0]] [.var [.d (.int .i64 t)]] (.d (.bool (!l.all (·==t)))) [.var [.d (.int .i64 t)]]:=by
 refine cf_intro mix (fn:=Tryz.f83) (by kernel_rfl) rfl (by kernel_rfl) (by decide) (by simp) ?_
 simp
 (repeat' (first|contradiction|exact .ok|apply And.intro|intro _|(refine gc (fun h=>?_) (fun h=>?_)<;>(have h':=h;(try simp at h');first|done|simp[h,h']|simp))))
 refine acallT_hand [1000000] (f_index l hl t) (by simp) (by simp) (by simp) (by simp) (by simp) ?_
 have:=idxNe_all t l
 simp at this
 simp
 (repeat' (first|contradiction|exact .ok|apply And.intro|intro _|(refine gc (fun h=>?_) (fun h=>?_)<;>(have h':=h;(try simp at h');first|done|simp[h,h']|simp))))
 all_goals simpa using this
theorem f_every (l:List Int) (hl:l.length≤1000) (t:Int):Cf En 221 [.d (.int .i64 t),.d (.sl (ints l))] [] (.d (.bool (l.all (·==t)))) []:=by
 refine cf_intro mix (fn:=Tryz.f221) (by kernel_rfl) rfl (by kernel_rfl) (by decide) (by simp) ?_
 simp
 (repeat' (first|contradiction|exact .ok|apply And.intro|intro _|(refine gc (fun h=>?_) (fun h=>?_)<;>(have h':=h;(try simp at h');first|done|simp[h,h']|simp))))
 refine acallT_hand [2] (f_contains l hl t) (by simp) (by simp) (by simp) (by simp) (by simp) ?_
 simp
 all_goals exact gz
theorem e_fit (w:List UInt8) (k ty own:Int) (l:List Int) (hl:l.length≤1000) (h4:ty=4→1≤l.length) (h6:ty=6→l.length=3) :
  Cf En 177 [.agg [.d (.str w),.d (.int .i64 k),.d (.int .i64 ty),.d (.int .i64 own)],.d (.sl (ints l))] [] (.d (.bool (fitOk ty l))) []:=by
 refine cf_intro mix (fn:=Tryz.f177) (by kernel_rfl) rfl (by kernel_rfl) (by decide) (by simp) ?_
 by_cases t1:ty=1
 ·subst t1
  simp [fitOk]
  (repeat' (first|contradiction|exact .ok|apply And.intro|intro _|(refine gc (fun h=>?_) (fun h=>?_)<;>(have h':=h;(try simp at h');first|done|simp[h,h']|simp))))
  refine acallT_plain (f_every l hl 1) (by simp [V.a]) ?_
  simp
  all_goals exact gz
 by_cases t2:ty=2
 ·subst t2
  simp [fitOk]
  (repeat' (first|contradiction|exact .ok|apply And.intro|intro _|(refine gc (fun h=>?_) (fun h=>?_)<;>(have h':=h;(try simp at h');first|done|simp[h,h']|simp))))
  refine acallT_plain (f_every l hl 3) (by simp [V.a]) ?_
  simp
  all_goals exact gz
 by_cases t3:ty=3
 ·subst t3
  simp [fitOk]
  (repeat' (first|contradiction|exact .ok|apply And.intro|intro _|(refine gc (fun h=>?_) (fun h=>?_)<;>(have h':=h;(try simp at h');first|done|simp[h,h']|simp))))
  refine acallT_plain (f_every l hl 2) (by simp [V.a]) ?_
  simp
  all_goals exact gz
 by_cases t4:ty=4
 ·subst t4
  have hg:l[0]?=some (l[0]'(by have:=h4 rfl; omega)):=List.getElem?_eq_getElem _
  simp [fitOk,ints,hg]
  (repeat' (first|contradiction|exact .ok|apply And.intro|intro _|(refine gc (fun h=>?_) (fun h=>?_)<;>(have h':=h;(try simp at h');first|done|simp[h,h']|simp))))
  refine acallT_plain (f_every l hl ((l[0]?).getD 0)) (by simp [ints,hg]) ?_
  simp [hg]
  all_goals exact gz
 by_cases t6:ty=6
 ·subst t6
  obtain ⟨a,b,c,rfl⟩:∃ a b c,l=[a,b,c]:=by
   match l,h6 rfl with
   | [a,b,c],_=>exact ⟨a,b,c,rfl⟩
  simp [fitOk,ints]
  (repeat' (first|contradiction|exact .ok|apply And.intro|intro _|(refine gc (fun h=>?_) (fun h=>?_)<;>(have h':=h;(try simp at h');first|done|simp[h,h']|simp))))
  all_goals simp_all
 simp [fitOk,t1,t2,t3,t4,t6]
 (repeat' (first|contradiction|exact .ok|apply And.intro|intro _|(refine gc (fun h=>?_) (fun h=>?_)<;>(have h':=h;(try simp at h');first|done|simp[h,h',t1,t2,t3,t4,t6]|simp[t1,t2,t3,t4,t6]))))
end Go.Proofs.Tryz
