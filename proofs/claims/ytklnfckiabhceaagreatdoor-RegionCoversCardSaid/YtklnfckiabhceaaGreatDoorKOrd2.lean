import Derived.Test.YtklnfckiabhceaaGreatDoorKCldR
import Derived.Test.YtklnfckiabhceaaGreatDoorAbB
import Derived.Test.YtklnfckiabhceaaGreatDoorOrs
import Derived.Test.YtklnfckiabhceaaGreatDoorKEnvR
set_option linter.all false
namespace Go.Proofs.Tryz
open Go.Ab
set_option maxRecDepth 100000
set_option maxHeartbeats 4000000
theorem fits_few:∀ (m:Nat) (e:Ex),SizeOf.sizeOf e<m→∀ q,e.few q=true→e.fits
 | 0,_,h,_,_=>absurd h (by omega)
 | m+1,.mk o c n t g ks,hm,q,hq=>by
   obtain ⟨hk,ht,hfew⟩:=fewC_kids hq
   rw [Ex.fits]
   refine ⟨by omega,?_⟩
   have:∀ l:List Ex,(∀ e∈l,e.fits)→fitsAll l:=by
    intro l
    induction l with
    | nil=>intro _; trivial
    | cons e es ih=>intro h; exact ⟨h e List.mem_cons_self,ih fun x hx=>h x (List.mem_cons_of_mem _ hx)⟩
   exact this ks fun e he=>fits_few m e (by have:=Ex.kid_lt (e:=.mk o c n t g ks) (k:=e) he; omega) (q+1) (hfew e he)
theorem e_size:∀ (m:Nat) (e:Ex),SizeOf.sizeOf e<m→∀ q,e.few q=true→Cf En 166 [e.a] [] (.d (.int .i64 e.size)) []
 | 0,_,h,_,_=>absurd h (by omega)
 | m+1,.mk o c n t g ks,hm,q,hq=>by
   obtain ⟨hk,ht,hfew⟩:=fewC_kids hq
   refine cf_intro mix (fn:=Tryz.f166) (by kernel_rfl) rfl (by kernel_rfl) (by decide) (by simp) ?_
   have hf:Ex.size (.mk o c n t g ks)=sizeAll 1 ks:=by rw [Ex.size]
   rw [hf]
   generalize hres:sizeAll 1 ks=res
   simp [Ex.a,Ex.c,kidsC_map]
   (repeat' (first|contradiction|exact .ok|apply And.intro|intro _|(refine gc (fun h=>?_) (fun h=>?_)<;>(have h':=h;(try simp at h');first|done|simp[h,h']|simp))))
   refine aloopT mix (by decide) (fun p:Nat×Int=>{ s:=mkS [(1,.ptr 1 0 0),(3,.d (.int .i64 p.2)),(7,.d (.sl (ks.map Ex.c))),(8,.d (.int .i64 ks.length)),(9,.d (.int .i64 p.1))],b:=mkB [(1,1,.var (Ex.a (.mk o c n t g ks)).cells)] }) (fun p=>p.1≤ks.length∧sizeAll p.2 (ks.drop p.1)=res) (fun p=>ks.length - p.1) (0,1) (by simp [hres]) (sub_mk _ _ ⟨by simp,by simp,by simp [renOf,Blk.live,Ex.a,Ex.c,kidsC_map],by simp⟩ (by simp [renOf])) ?_
   rintro ⟨i,acc⟩ ⟨hi,ho⟩
   simp only at hi ho
   by_cases hlt:i<ks.length
   ·have hlt':(i:Int)<ks.length:=by omega
    have hg:ks[i]?=some ks[i]:=List.getElem?_eq_getElem hlt
    have hdr:=sizeAll_drop acc hg
    have hkid:SizeOf.sizeOf ks[i]<m:=by
     have:=Ex.kid_lt (e:=.mk o c n t g ks) (k:=ks[i]) (List.getElem_mem hlt)
     omega
    simp [Ex.a,Ex.c,kidsC_map,hlt,hlt',hg,Ex.clen,Ex.ctake]
    (repeat' (first|contradiction|exact .ok|apply And.intro|intro _|(refine gc (fun h=>?_) (fun h=>?_)<;>(have h':=h;(try simp at h');first|done|simp[h,h']|simp))))
    refine acallT_plain (e_size m ks[i] hkid (q+1) (hfew _ (List.getElem_mem hlt))) (by simp [Ex.a]) ?_
    simp
    (repeat' (first|contradiction|exact .ok|apply And.intro|intro _|(refine gc (fun h=>?_) (fun h=>?_)<;>(have h':=h;(try simp at h');first|done|simp[h,h']|simp))))
    refine ⟨(i+1,IntKind.i64.wrap (acc+ks[i].size)),⟨hlt,?_⟩,?_,?_⟩
    ·rw [← ho,hdr]
    ·refine sub_mk _ [(1,1,_)] ⟨by simp,by simp,by simp [renOf,Blk.live,Ex.a,Ex.c,kidsC_map],by simp⟩ ?_
     simp [renOf]
     exact wrap_in (by omega) (by omega)
    ·simp; omega
   ·have hlt':¬ (i:Int)<ks.length:=by omega
    simp [Ex.a,Ex.c,kidsC_map,hlt,hlt']
    (repeat' (first|contradiction|exact .ok|apply And.intro|intro _|(refine gc (fun h=>?_) (fun h=>?_)<;>(have h':=h;(try simp at h');first|done|simp[h,h']|simp))))
    rw [← ho,List.drop_eq_nil_of_le (by omega)]; rfl
mutual
def Ex.dep:Ex→Nat
 | .mk _ _ _ _ _ ks=>depAll 0 ks+1
def depAll:Nat→List Ex→Nat
 | a,[]=>a
 | a,e::es=>depAll (max a e.dep) es
end
theorem depAll_drop {l:List Ex} {i:Nat} {x:Ex} (a:Nat) (h:l[i]?=some x):depAll a (l.drop i)=depAll (max a x.dep) (l.drop (i+1)):=by
 obtain ⟨hi,rfl⟩:=List.getElem?_eq_some_iff.1 h
 rw [List.drop_eq_getElem_cons hi,depAll]
theorem depAll_le (b:Nat):∀ (l:List Ex) (a:Nat),a≤b→(∀ e∈l,e.dep≤b)→depAll a l≤b
 | [],a,h,_=>h
 | e::es,a,h,hl=>by
   rw [depAll]
   exact depAll_le b es _ (by have:=hl e List.mem_cons_self; omega) (fun x hx=>hl x (List.mem_cons_of_mem _ hx))
theorem dep_few:∀ (m:Nat) (e:Ex),SizeOf.sizeOf e<m→∀ q,e.few q=true→e.dep+q≤61
 | 0,_,h,_,_=>absurd h (by omega)
 | m+1,.mk o c n t g ks,hm,q,hq=>by
   obtain ⟨hk,ht,hfew⟩:=fewC_kids hq
   have hq60:q≤60:=by
    rw [Ex.few] at hq
    by_cases h:60<q
    ·simp [h] at hq
    ·omega
   have:=depAll_le (60 - q) ks 0 (by omega) (fun e he=>by
    have:=dep_few m e (by have:=Ex.kid_lt (e:=.mk o c n t g ks) (k:=e) he; omega) (q+1) (hfew e he)
    omega)
   rw [Ex.dep]
   omega
theorem e_depth:∀ (m:Nat) (e:Ex),SizeOf.sizeOf e<m→∀ q,e.few q=true→Cf En 167 [e.a] [] (.d (.int .i64 e.dep)) []
 | 0,_,h,_,_=>absurd h (by omega)
 | m+1,.mk o c n t g ks,hm,q,hq=>by
   obtain ⟨hk,ht,hfew⟩:=fewC_kids hq
   have hdep:=dep_few _ _ (Nat.lt_succ_self _) q hq
   refine cf_intro mix (fn:=Tryz.f167) (by kernel_rfl) rfl (by kernel_rfl) (by decide) (by simp) ?_
   rw [Ex.dep] at hdep ⊢
   generalize hres:depAll 0 ks=res at *
   simp [Ex.a,Ex.c,kidsC_map]
   (repeat' (first|contradiction|exact .ok|apply And.intro|intro _|(refine gc (fun h=>?_) (fun h=>?_)<;>(have h':=h;(try simp at h');first|done|simp[h,h']|simp))))
   refine aloopT mix (by decide) (fun p:Nat×Nat=>{ s:=mkS [(1,.ptr 1 0 0),(3,.d (.int .i64 p.2)),(7,.d (.sl (ks.map Ex.c))),(8,.d (.int .i64 ks.length)),(9,.d (.int .i64 p.1))],b:=mkB [(1,1,.var (Ex.a (.mk o c n t g ks)).cells)] }) (fun p=>p.1≤ks.length∧depAll p.2 (ks.drop p.1)=res) (fun p=>ks.length - p.1) (0,0) (by simp [hres]) (sub_mk _ _ ⟨by simp,by simp,by simp [renOf,Blk.live,Ex.a,Ex.c,kidsC_map],by simp⟩ (by simp [renOf])) ?_
   rintro ⟨i,acc⟩ ⟨hi,ho⟩
   simp only at hi ho
   by_cases hlt:i<ks.length
   ·have hlt':(i:Int)<ks.length:=by omega
    have hg:ks[i]?=some ks[i]:=List.getElem?_eq_getElem hlt
    have hdr:=depAll_drop acc hg
    have hkid:SizeOf.sizeOf ks[i]<m:=by
     have:=Ex.kid_lt (e:=.mk o c n t g ks) (k:=ks[i]) (List.getElem_mem hlt)
     omega
    have hmax:(if (acc:Int)<ks[i].dep then (ks[i].dep:Int) else acc)=((max acc ks[i].dep:Nat):Int):=by split <;> omega
    simp [Ex.a,Ex.c,kidsC_map,hlt,hlt',hg,Ex.clen,Ex.ctake]
    (repeat' (first|contradiction|exact .ok|apply And.intro|intro _|(refine gc (fun h=>?_) (fun h=>?_)<;>(have h':=h;(try simp at h');first|done|simp[h,h']|simp))))
    refine acallT_plain (e_depth m ks[i] hkid (q+1) (hfew _ (List.getElem_mem hlt))) (by simp [Ex.a]) ?_
    simp
    (repeat' (first|contradiction|exact .ok|apply And.intro|intro _|(refine gc (fun h=>?_) (fun h=>?_)<;>(have h':=h;(try simp at h');first|done|simp[h,h']|simp))))
    refine ⟨(i+1,max acc ks[i].dep),⟨hlt,?_⟩,?_,?_⟩
    ·rw [← ho,hdr]
    ·refine sub_mk _ [(1,1,_)] ⟨by simp,by simp,by simp [renOf,Blk.live,Ex.a,Ex.c,kidsC_map],by simp⟩ ?_
     simp [renOf]
     refine ⟨?_,wrap_in (by omega) (by omega)⟩
     split <;> omega
    ·simp; omega
   ·have hlt':¬ (i:Int)<ks.length:=by omega
    have hacc:acc=res:=by
     rw [← ho,List.drop_eq_nil_of_le (by omega)]; rfl
    have hw:=wrap_in (n:=(acc:Int)+1) (by omega) (by omega)
    simp [Ex.a,Ex.c,kidsC_map,hlt,hlt',hw]
    (repeat' (first|contradiction|exact .ok|apply And.intro|intro _|(refine gc (fun h=>?_) (fun h=>?_)<;>(have h':=h;(try simp at h');first|done|simp[h,h']|simp))))
    all_goals omega
theorem rx_depth:∀ (m:Nat) (e:Ex),SizeOf.sizeOf e<m→∀ q,e.few q=true→Cf En 172 [e.a] [] (.d (.int .i64 e.dep)) []
 | 0,_,h,_,_=>absurd h (by omega)
 | m+1,.mk o c n t g ks,hm,q,hq=>by
   obtain ⟨hk,ht,hfew⟩:=fewC_kids hq
   have hdep:=dep_few _ _ (Nat.lt_succ_self _) q hq
   refine cf_intro mix (fn:=Tryz.f172) (by kernel_rfl) rfl (by kernel_rfl) (by decide) (by simp) ?_
   rw [Ex.dep] at hdep ⊢
   generalize hres:depAll 0 ks=res at *
   simp [Ex.a,Ex.c,kidsC_map]
   (repeat' (first|contradiction|exact .ok|apply And.intro|intro _|(refine gc (fun h=>?_) (fun h=>?_)<;>(have h':=h;(try simp at h');first|done|simp[h,h']|simp))))
   refine aloopT mix (by decide) (fun p:Nat×Nat=>{ s:=mkS [(1,.ptr 1 0 0),(3,.d (.int .i64 p.2)),(4,.d (.int .i64 p.1))],b:=mkB [(1,1,.var (Ex.a (.mk o c n t g ks)).cells)] }) (fun p=>p.1≤ks.length∧depAll p.2 (ks.drop p.1)=res) (fun p=>ks.length - p.1) (0,0) (by simp [hres]) (sub_mk _ _ ⟨by simp,by simp,by simp [renOf,Blk.live,Ex.a,Ex.c,kidsC_map],by simp⟩ (by simp [renOf])) ?_
   rintro ⟨i,acc⟩ ⟨hi,ho⟩
   simp only at hi ho
   by_cases hlt:i<ks.length
   ·have hlt':(i:Int)<ks.length:=by omega
    have hg:ks[i]?=some ks[i]:=List.getElem?_eq_getElem hlt
    have hdr:=depAll_drop acc hg
    have hkid:SizeOf.sizeOf ks[i]<m:=by
     have:=Ex.kid_lt (e:=.mk o c n t g ks) (k:=ks[i]) (List.getElem_mem hlt)
     omega
    have hmax:(if (acc:Int)<ks[i].dep then (ks[i].dep:Int) else acc)=((max acc ks[i].dep:Nat):Int):=by split <;> omega
    simp [Ex.a,Ex.c,kidsC_map,hlt,hlt',hg,Ex.clen,Ex.ctake]
    (repeat' (first|contradiction|exact .ok|apply And.intro|intro _|(refine gc (fun h=>?_) (fun h=>?_)<;>(have h':=h;(try simp at h');first|done|simp[h,h']|simp))))
    refine acallT_plain (rx_depth m ks[i] hkid (q+1) (hfew _ (List.getElem_mem hlt))) (by simp [Ex.a]) ?_
    simp
    (repeat' (first|contradiction|exact .ok|apply And.intro|intro _|(refine gc (fun h=>?_) (fun h=>?_)<;>(have h':=h;(try simp at h');first|done|simp[h,h']|simp))))
    refine ⟨(i+1,max acc ks[i].dep),⟨hlt,?_⟩,?_,?_⟩
    ·rw [← ho,hdr]
    ·refine sub_mk _ [(1,1,_)] ⟨by simp,by simp,by simp [renOf,Blk.live,Ex.a,Ex.c,kidsC_map],by simp⟩ ?_
     simp [renOf]
     refine ⟨?_,wrap_in (by omega) (by omega)⟩
     split <;> omega
    ·simp; omega
   ·have hlt':¬ (i:Int)<ks.length:=by omega
    have hacc:acc=res:=by
     rw [← ho,List.drop_eq_nil_of_le (by omega)]; rfl
    have hw:=wrap_in (n:=(acc:Int)+1) (by omega) (by omega)
    simp [Ex.a,Ex.c,kidsC_map,hlt,hlt',hw]
    (repeat' (first|contradiction|exact .ok|apply And.intro|intro _|(refine gc (fun h=>?_) (fun h=>?_)<;>(have h':=h;(try simp at h');first|done|simp[h,h']|simp))))
    all_goals omega
theorem e_isType (t:Int):Cf En 188 [.d (.int .i64 t)] [] (.d (.bool (t==1||(t==2||t==3)))) []:=by
 refine cf_intro mix (fn:=Tryz.f188) (by kernel_rfl) rfl (by kernel_rfl) (by decide) (by simp) ?_
 simp
 (repeat' (first|contradiction|exact .ok|apply And.intro|intro _|(refine gc (fun h=>?_) (fun h=>?_)<;>(have h':=h;(try simp at h');first|done|simp[h,h']|simp))))
 all_goals simp_all
theorem f_one (x t:Int):Cf En 215 [.d (.int .i64 x),.ptr 1000000 0 0] [.var [.d (.int .i64 t)]] (.d (.bool (x != t))) [.var [.d (.int .i64 t)]]:=by
 refine cf_intro mix (fn:=Tryz.f215) (by kernel_rfl) rfl (by kernel_rfl) (by decide) (by simp) ?_
 simp
 all_goals exact gz
def idxNe (t:Int) (l:List Int):Int:=match l.findIdx? (fun x=>x != t) with
 | some i=>i
 | none=>-1
theorem f_index (l:List Int) (hl:l.length≤1000) (t:Int):Cf En 125 [.d (.sl (ints l)),.clo 215 [.ptr 1000000 0 0]] [.var [.d (.int .i64 t)]] (.d (.int .i64 (idxNe t l))) [.var [.d (.int .i64 t)]]:=by
 refine cf_intro mix (fn:=Tryz.f125) (by kernel_rfl) rfl (by kernel_rfl) (by decide) (by simp) ?_
 simp [ints]
 (repeat' (first|contradiction|exact .ok|apply And.intro|intro _|(refine gc (fun h=>?_) (fun h=>?_)<;>(have h':=h;(try simp at h');first|done|simp[h,h']|simp))))
 refine aloopT mix (by decide) (fun i:Nat=>{ s:=mkS [(0,.d (.sl (ints l))),(1,.clo 215 [.ptr 1000000 0 0]),(7,.d (.int .i64 l.length)),(8,.d (.int .i64 i))],b:=mkB [(1000000,1000000,.var [.d (.int .i64 t)])] }) (fun i:Nat=>i≤l.length∧∀ j (h:j<l.length),j<i→l[j]=t) (fun i=>l.length - i) 0 (by simp) (sub_mk _ [(1000000,1000000,_)] ⟨by simp,by simp,by simp [renOf,Blk.live],base1⟩ (by simp [renOf,ints])) ?_
 rintro i ⟨hi,ho⟩
 by_cases hlt:i<l.length
 ·have hlt':(i:Int)<l.length:=by omega
  have hg:l[i]?=some l[i]:=List.getElem?_eq_getElem hlt
  simp [hlt,hlt',ints,hg]
  (repeat' (first|contradiction|exact .ok|apply And.intro|intro _|(refine gc (fun h=>?_) (fun h=>?_)<;>(have h':=h;(try simp at h');first|done|simp[h,h']|simp))))
  refine acallT_hand [1000000] (f_one l[i] t) (by simp) (by simp) (by simp) (by simp) (by simp) ?_
  by_cases hx:l[i]=t
  ·simp [hx]
   (repeat' (first|contradiction|exact .ok|apply And.intro|intro _|(refine gc (fun h=>?_) (fun h=>?_)<;>(have h':=h;(try simp at h');first|done|simp[h,h']|simp))))
   refine ⟨i+1,⟨hlt,?_⟩,?_,?_⟩
   ·intro j hj hji
    rcases Nat.lt_or_ge j i with c | c
    ·exact ho j hj c
    ·have:j=i:=by omega
     subst this; exact hx
   ·refine sub_mk _ [(1000000,1000000,_)] ⟨by simp,by simp,by simp [renOf,Blk.live],base1⟩ ?_
    simp [renOf,ints]
    exact wrap_in (by omega) (by omega)
   ·simp; omega
  ·have hf:idxNe t l=i:=by
    unfold idxNe
    have:l.findIdx? (fun x=>x != t)=some i:=by
     rw [List.findIdx?_eq_some_iff_getElem]
     exact ⟨hlt,by simp [hx],fun j hj=>by simp [ho j (by omega) hj]⟩
    rw [this]
   simp [hx,hf]
   all_goals exact gz
 ·have hf:idxNe t l=-1:=by
   unfold idxNe
   have:l.findIdx? (fun x=>x != t)=none:=by
    rw [List.findIdx?_eq_none_iff]
    intro x hx
    obtain ⟨j,hj,rfl⟩:=List.getElem_of_mem hx
    simp [ho j hj (by omega)]
   rw [this]
  simp [hlt,hf]
  all_goals exact gz
theorem idxNe_all (t:Int) (l:List Int):decide (idxNe t l≥0)=!l.all (·==t):=by
 unfold idxNe
 cases h:l.findIdx? (fun x=>x != t) with
 | none =>
   rw [List.findIdx?_eq_none_iff] at h
   have:l.all (·==t)=true:=by rw [List.all_eq_true]; intro x hx; have:=h x hx; simpa using this
   simp [this]
 | some i =>
   rw [List.findIdx?_eq_some_iff_getElem] at h
   obtain ⟨hi,h,_⟩:=h
   have:l.all (·==t)=false:=by
    rw [List.all_eq_false]
    exact ⟨l[i],List.getElem_mem hi,by simpa using h⟩
   simp [this]
theorem f_contains (l:List Int) (hl:l.length≤1000) (t:Int):Cf En 74 [.d (.sl (ints l)),.clo 215 [.ptr 1000000 0 0]] [.var [.d (.int .i64 t)]] (.d (.bool (!l.all (·==t)))) [.var [.d (.int .i64 t)]]:=by
 refine cf_intro mix (fn:=Tryz.f74) (by kernel_rfl) rfl (by kernel_rfl) (by decide) (by simp) ?_
 simp
 (repeat' (first|contradiction|exact .ok|apply And.intro|intro _|(refine gc (fun h=>?_) (fun h=>?_)<;>(have h':=h;(try simp at h');first|done|simp[h,h']|simp))))
 refine acallT_hand [1000000] (f_index l hl t) (by simp) (by simp) (by simp) (by simp) (by simp) ?_
 have:=idxNe_all t l
 simp at this
 simp
 (repeat' (first|contradiction|exact .ok|apply And.intro|intro _|(refine gc (fun h=>?_) (fun h=>?_)<;>(have h':=h;(try simp at h');first|done|simp[h,h']|simp))))
 all_goals simpa using this
theorem f_every (l:List Int) (hl:l.length≤1000) (t:Int):Cf En 214 [.d (.int .i64 t),.d (.sl (ints l))] [] (.d (.bool (l.all (·==t)))) []:=by
 refine cf_intro mix (fn:=Tryz.f214) (by kernel_rfl) rfl (by kernel_rfl) (by decide) (by simp) ?_
 simp
 (repeat' (first|contradiction|exact .ok|apply And.intro|intro _|(refine gc (fun h=>?_) (fun h=>?_)<;>(have h':=h;(try simp at h');first|done|simp[h,h']|simp))))
 refine acallT_hand [2] (f_contains l hl t) (by simp) (by simp) (by simp) (by simp) (by simp) ?_
 simp
 all_goals exact gz
theorem e_fit (w:List UInt8) (k ty own:Int) (l:List Int) (hl:l.length≤1000) (h4:ty=4→1≤l.length) (h6:ty=6→l.length=3) :
  Cf En 189 [.agg [.d (.str w),.d (.int .i64 k),.d (.int .i64 ty),.d (.int .i64 own)],.d (.sl (ints l))] [] (.d (.bool (fitOk ty l))) []:=by
 refine cf_intro mix (fn:=Tryz.f189) (by kernel_rfl) rfl (by kernel_rfl) (by decide) (by simp) ?_
 by_cases t1:ty=1
 ·subst t1
  simp [fitOk]
  (repeat' (first|contradiction|exact .ok|apply And.intro|intro _|(refine gc (fun h=>?_) (fun h=>?_)<;>(have h':=h;(try simp at h');first|done|simp[h,h']|simp))))
  refine acallT_plain (f_every l hl 1) (by simp [V.a]) ?_
  simp
  all_goals exact gz
 by_cases t2:ty=2
 ·subst t2
  simp [fitOk]
  (repeat' (first|contradiction|exact .ok|apply And.intro|intro _|(refine gc (fun h=>?_) (fun h=>?_)<;>(have h':=h;(try simp at h');first|done|simp[h,h']|simp))))
  refine acallT_plain (f_every l hl 3) (by simp [V.a]) ?_
  simp
  all_goals exact gz
 by_cases t3:ty=3
 ·subst t3
  simp [fitOk]
  (repeat' (first|contradiction|exact .ok|apply And.intro|intro _|(refine gc (fun h=>?_) (fun h=>?_)<;>(have h':=h;(try simp at h');first|done|simp[h,h']|simp))))
  refine acallT_plain (f_every l hl 2) (by simp [V.a]) ?_
  simp
  all_goals exact gz
 by_cases t4:ty=4
 ·subst t4
  have hg:l[0]?=some (l[0]'(by have:=h4 rfl; omega)):=List.getElem?_eq_getElem _
  simp [fitOk,ints,hg]
  (repeat' (first|contradiction|exact .ok|apply And.intro|intro _|(refine gc (fun h=>?_) (fun h=>?_)<;>(have h':=h;(try simp at h');first|done|simp[h,h']|simp))))
  refine acallT_plain (f_every l hl ((l[0]?).getD 0)) (by simp [ints,hg]) ?_
  simp [hg]
  all_goals exact gz
 by_cases t6:ty=6
 ·subst t6
  obtain ⟨a,b,c,rfl⟩:∃ a b c,l=[a,b,c]:=by
   match l,h6 rfl with
   | [a,b,c],_=>exact ⟨a,b,c,rfl⟩
  simp [fitOk,ints]
  (repeat' (first|contradiction|exact .ok|apply And.intro|intro _|(refine gc (fun h=>?_) (fun h=>?_)<;>(have h':=h;(try simp at h');first|done|simp[h,h']|simp))))
  all_goals simp_all
 simp [fitOk,t1,t2,t3,t4,t6]
 (repeat' (first|contradiction|exact .ok|apply And.intro|intro _|(refine gc (fun h=>?_) (fun h=>?_)<;>(have h':=h;(try simp at h');first|done|simp[h,h',t1,t2,t3,t4,t6]|simp[t1,t2,t3,t4,t6]))))
end Go.Proofs.Tryz
namespace Go.Proofs.Tryz
open Go.Ab
set_option maxRecDepth 100000
set_option maxHeartbeats 1000000
def fkO (S:List Tb) (k:Nat):List Fk:=match S[k]? with | some x=>x.fk | none=>[]
theorem keyO_eq (S:List Tb) (k:Nat):keyO S k=keysT S (fkO S k) []:=by
 unfold keyO fkO
 cases S[k]? <;> rfl
theorem keyO_mem {S:List Tb} {k:Nat} {z:Int}:z∈keyO S k↔∃ f∈fkO S k,tgt S f=z:=by
 rw [keyO_eq,keysT_mem]
 simp
theorem keyO_nodup {S:List Tb} {k:Nat}:(keyO S k).Nodup:=by
 rw [keyO_eq]
 exact keysT_nodup List.nodup_nil
def rdyO (S:List Tb) (done:Nat→Bool) (k:Nat):Bool:=!done k&&(fkO S k).all fun f=>done (tgt S f).toNat
def nextR (S:List Tb) (done:Nat→Bool):Int:=fidx (rdyO S done) (seqF (fun k=>k) S.length) 0
def dnO (done:Nat→Bool) (z:Int) (k:Nat):Bool:=done k||decide ((k:Int)=z)
def loopR (S:List Tb):Nat→(Nat→Bool)→List Int→List Int×Int
 | 0,_,out=>(out,0)
 | n+1,done,out=>if nextR S done<0 then ([],7) else loopR S n (dnO done (nextR S done)) (out++[nextR S done])
theorem fidx_congr {α:Type} {p q:α→Bool}:∀ {l:List α} {i:Nat},(∀ x∈l,p x=q x)→fidx p l i=fidx q l i
 | [],_,_=>rfl
 | x::l,i,h=>by
   rw [fidx,fidx,h x List.mem_cons_self,fidx_congr fun y hy=>h y (List.mem_cons_of_mem _ hy)]
structure OkO (S:List Tb) (al:Nat→Bool) (es:Nat→List Int) (done:Nat→Bool):Prop where
 ha:∀ k,k<S.length→al k=!done k
 nd:∀ k,k<S.length→(es k).Nodup
 mem:∀ k,k<S.length→al k=true→∀ z,z∈es k↔(∃ f∈fkO S k,tgt S f=z)∧done z.toNat=false
theorem next_eq {S:List Tb} {al:Nat→Bool} {es:Nat→List Int} {done:Nat→Bool} (h:OkO S al es done):nextO S.length al es=nextR S done:=by
 unfold nextO nextR
 refine fidx_congr fun k hk=>?_
 obtain ⟨j,hj,hkj⟩:=seqF_mem.1 hk
 subst hkj
 unfold rdyO
 rw [← h.ha k hj]
 cases ha:al k
 ·rfl
 ·rw [Bool.true_and,Bool.true_and,Bool.eq_iff_iff,beq_iff_eq,List.length_eq_zero_iff,List.all_eq_true,List.eq_nil_iff_forall_not_mem]
  constructor
  ·intro h1 f hf
   cases hd:done (tgt S f).toNat
   ·exact absurd ((h.mem k hj ha _).2 ⟨⟨f,hf,rfl⟩,hd⟩) (h1 _)
   ·rfl
  ·intro h1 z hz
   obtain ⟨⟨f,hf,rfl⟩,hd⟩:=(h.mem k hj ha _).1 hz
   rw [h1 f hf] at hd
   cases hd
theorem okO_step {S:List Tb} {al:Nat→Bool} {es:Nat→List Int} {done:Nat→Bool} (hT:∀ k,∀ f∈fkO S k,0≤tgt S f) (h:OkO S al es done) {z:Int} (hz:0≤z):OkO S (alO al z) (esO al es z) (dnO done z):=by
 refine ⟨fun k hk=>?_,fun k hk=>?_,fun k hk ha y=>?_⟩
 ·unfold alO dnO
  rw [h.ha k hk,Bool.not_or]
  congr 1
 ·unfold esO
  split
  ·exact (h.nd k hk).erase z
  ·exact h.nd k hk
 ·unfold esO
  rw [if_pos ha,(h.nd k hk).mem_erase_iff,h.mem k hk (by unfold alO at ha; rw [Bool.and_eq_true] at ha; exact ha.1)]
  unfold dnO
  rw [Bool.or_eq_false_iff,decide_eq_false_iff_not]
  constructor
  ·rintro ⟨h1,⟨f,hf,rfl⟩,h2⟩
   have:=hT k f hf
   exact ⟨⟨f,hf,rfl⟩,h2,by omega⟩
  ·rintro ⟨⟨f,hf,rfl⟩,h2,h3⟩
   have:=hT k f hf
   exact ⟨by omega,⟨f,hf,rfl⟩,h2⟩
theorem loop_eq {S:List Tb} (hT:∀ k,∀ f∈fkO S k,0≤tgt S f):∀ (n:Nat) {al:Nat→Bool} {es:Nat→List Int} {done:Nat→Bool} {out:List Int},OkO S al es done→loopO S.length n al es out=loopR S n done out
 | 0,_,_,_,_,_=>rfl
 | n+1,al,es,done,out,h=>by
   rw [loopO,loopR,next_eq h]
   split
   ·rfl
   ·rename_i hz
    exact loop_eq hT n (okO_step hT h (by omega))
theorem fkO_mem {S:List Tb} {k:Nat} {f:Fk} (h:f∈fkO S k):∃ x∈S,f∈x.fk:=by
 unfold fkO at h
 split at h
 ·rename_i x hx
  exact ⟨x,List.mem_of_getElem? hx,h⟩
 ·cases h
theorem miss_all {S:List Tb} (h:missT S=false) (k:Nat):∀ f∈fkO S k,0≤tgt S f:=by
 intro f hf
 obtain ⟨x,hx,hfx⟩:=fkO_mem hf
 unfold missT at h
 rw [List.any_eq_false] at h
 have:=h x hx
 rw [List.any_eq_true] at this
 by_cases h0:0≤tgt S f
 ·exact h0
 ·exact absurd ⟨f,hfx,by simp; omega⟩ this
theorem ordS_ref (S:List Tb):ordS S=if missT S=true then ([],11) else loopR S S.length (fun _=>false) []:=by
 unfold ordS
 split
 ·rfl
 ·rename_i h
  have hm:missT S=false:=by simpa using h
  refine loop_eq (fun k=>miss_all hm k) _ ⟨fun _ _=>rfl,fun k _=>keyO_nodup,fun k _ _ z=>?_⟩
  rw [keyO_mem]
  simp
end Go.Proofs.Tryz
namespace Go.Proofs.Tryz
open Go.Ab
set_option maxRecDepth 100000
set_option maxHeartbeats 1000000
theorem s_letter (c:UInt8):Cf Es 113 [.d (.int .u8 c.toNat)] [] (.d (.bool (lowr c))) []:=by
 refine cf_intro mixs (fn:=Tryz.f113) (by kernel_rfl) rfl (by kernel_rfl) (by decide) (by simp) ?_
 unfold lowr
 simp
 (repeat' (first|contradiction|exact .ok|apply And.intro|intro _|(refine gc (fun h=>?_) (fun h=>?_)<;>(have h':=h;(try simp at h');first|done|simp[h,h']|simp))))
 all_goals (first | (rw [Bool.eq_iff_iff]; simp; omega) | (simp; omega) | (simp_all; omega))
theorem words_plain:words.all plainW=true:=by decide
theorem nameOk_eq {c:UInt8} {s:List UInt8} (hl:s.length≤15) (hc:lowr c=true) :
  nameOk words (c::s)=(!within (32::(c::(s++[32]))) (spaced words)&&(c::s).all nameB):=by
 have h:=fun hp=>within_spaced (c::s) hp words words_plain
 rw [List.cons_append] at h
 unfold nameOk headLow
 cases ha:(c::s).all nameB with
 | false=>simp
 | true =>
   rw [h (plain_of_name ha)]
   simp [hc]
   omega
theorem s_name (s:List UInt8):Cf Es 66 [.d (.str s)] [] (.d (.bool (nameOk words s))) []:=by
 refine cf_intro mixs (fn:=Tryz.f66) (by kernel_rfl) rfl (by kernel_rfl) (by decide) (by simp) ?_
 cases s with
 | nil =>
   simp [nameOk,headLow]
   all_goals exact gz
 | cons c s =>
   by_cases hl:s.length≤15
   ·have hl':¬ (16:Int)<(s.length:Int)+1:=by omega
    have hl3:¬ (16:Int)<(s.length:Int):=by omega
    simp [hl,hl']
    refine ⟨.of (by kernel_rfl),?_⟩
    refine acallT_plain (s_letter c) (by simp) ?_
    simp [hl,hl']
    refine agrd_cases (fun h=>?_) (fun h=>?_)
    ·have h':lowr c=true:=by simpa using h
     have b1:1+(s.length+1)≤9223372036854775807:=by omega
     have b2:s.length+1+1≤9223372036854775807:=by omega
     have b3:s.length+1+1+1≤9223372036854775807:=by omega
     have b4:1+(s.length+1)+1≤9223372036854775807:=by omega
     simp [h,h',b1,b2,b3,b4]
     refine acallT_plain (c_contains (spaced words) (32::((c::s)++[32])) (by decide)) (by simp [spaced,words]) ?_
     rw [nameOk_eq hl h']
     generalize hW:within (32::(c::(s++[32]))) (spaced words)=W
     generalize hA:(c::s).all nameB=A
     cases W with
     | true =>
       simp [h,h',hW]
       all_goals exact gz
     | false =>
       simp [h,h',hW]
       obtain ⟨t,ht⟩:∃ t,t=c::s:=⟨_,rfl⟩
       have htl:(s.length:Int)+1=t.length:=by rw [ht]; simp
       have htn:t.length≤16:=by rw [ht]; simp; omega
       rw [← ht] at hA ⊢
       rw [htl]
       refine ⟨.of (by kernel_rfl),.of (by kernel_rfl),?_⟩
       refine aloopT mixs (by decide) (fun i:Nat=>{ s:=mkS [(0,.d (.str t)),(25,.d (.int .i64 t.length)),(26,.d (.int .i64 i))],b:=mkB [] }) (fun i:Nat=>i≤t.length∧∀ j (h:j<t.length),j<i→nameB t[j]=true) (fun i=>t.length - i) 0 (by simp) (sub_mk _ [] .nil (by simp)) ?_
       clear ht htl hl hl' hl3 h h' hW b1 b2 b3 b4
       rintro i ⟨hi,ho⟩
       by_cases hlt:i<t.length
       ·have hlt':(i:Int)<t.length:=by omega
        have hg:t[i]?=some t[i]:=List.getElem?_eq_getElem hlt
        simp [hlt,hlt',hg]
        refine ⟨.of (by kernel_rfl),.of (by kernel_rfl),.of (by kernel_rfl),?_⟩
        refine acallT_plain (s_letter t[i]) (by simp) ?_
        simp
        have hbad:nameB t[i]=false→A=false:=fun h=>by
         rw [← hA]
         cases hx:t.all nameB with
         | false=>rfl
         | true=>rw [List.all_eq_true.1 hx _ (List.getElem_mem hlt)] at h; cases h
        have hgood:nameB t[i]=true→∀ j (h:j<t.length),j<i+1→nameB t[j]=true:=fun h j hj hji=>by
         rcases Nat.lt_or_ge j i with c | c
         ·exact ho j hj c
         ·have:j=i:=by omega
          subst this
          exact h
        generalize hb:t[i]=b at *
        have hnb:nameB b=(lowr b||(decide (48≤b.toNat)&&decide (b.toNat≤57)||b.toNat==95)):=rfl
        clear ho hA hg
        (repeat' (first|contradiction|exact .ok|apply And.intro|intro _|(refine gc (fun h=>?_) (fun h=>?_)<;>(have h':=h;(try simp at h');first|done|simp[h,h']|simp))))
        all_goals first
         | (refine ⟨i+1,⟨hlt,hgood ?_⟩,sub_mk _ [] .nil ?_,?_⟩
            ·clear hbad hgood hb; first | (rw [hnb]; simp_all; done) | (rw [hnb]; simp_all; omega)
            ·simp; exact wrap_in (by omega) (by omega)
            ·simp; omega)
         | (apply hbad; clear hbad hgood hb; rw [hnb]; simp_all; done)
         | (apply hbad; clear hbad hgood hb; rw [hnb]; simp_all; omega)
       ·have hlt':¬ (i:Int)<t.length:=by omega
        have:A=true:=by
         rw [← hA,List.all_eq_true]
         intro x hx
         obtain ⟨j,hj,rfl⟩:=List.getElem_of_mem hx
         exact ho j hj (by omega)
        simp [hlt,hlt',this]
        exact ⟨.of (by kernel_rfl),.of (by kernel_rfl)⟩
    ·have h':lowr c=false:=by simpa using h
     simp [h,h',nameOk,headLow]
     all_goals exact gz
   ·have hn:nameOk words (c::s)=false:=by unfold nameOk; simp; intro h; omega
    rw [hn]
    have hl':(16:Int)<(s.length:Int)+1:=by omega
    simp [hl,hl']
    (repeat' (first|contradiction|exact .ok|apply And.intro|intro _|(refine gc (fun h=>?_) (fun h=>?_)<;>(have h':=h;(try simp at h');first|done|simp[h,h',hl']|simp[hl']))))
    all_goals simp_all
theorem r_reserved:Cf Es 130 [] [] (.d (.sl (words.map fun w=>[.str w]))) []:=by
 refine cf_intro mixs (fn:=Tryz.f130) (by kernel_rfl) rfl (by kernel_rfl) (by decide) (by simp) ?_
 simp [words]
 all_goals exact gz
theorem r_name (s:List UInt8):Cf Es 78 [.d (.str s)] [] (.d (.bool (nameOk words s))) []:=by
 refine cf_intro mixs (fn:=Tryz.f78) (by kernel_rfl) rfl (by kernel_rfl) (by decide) (by simp) ?_
 cases s with
 | nil =>
   simp [nameOk,headLow]
   all_goals exact gz
 | cons c s =>
   by_cases hl:s.length≤15
   ·have hl':¬ (16:Int)<(s.length:Int)+1:=by omega
    have hl3:¬ (s.length:Int)+1<1:=by omega
    have hN:nameOk words (c::s)=(lowr c&&((c::s).all nameB&&!words.contains (c::s))):=by
     unfold nameOk headLow
     simp
     omega
    rw [hN]
    generalize hA:(c::s).all nameB=A
    generalize hW:words.contains (c::s)=W
    generalize hR:(lowr c&&(A&&!W))=R
    by_cases hc:lowr c=true
    ·have h1:¬ (c.toNat:Int)<97:=by unfold lowr at hc; simp at hc; omega
     have h2:¬ (122:Int)<c.toNat:=by unfold lowr at hc; simp at hc; omega
     simp [hl,hl',hl3,h1,h2,hc]
     obtain ⟨t,ht⟩:∃ t,t=c::s:=⟨_,rfl⟩
     have htl:(s.length:Int)+1=t.length:=by rw [ht]; simp
     have htn:t.length≤16:=by rw [ht]; simp; omega
     rw [← ht] at hA hW ⊢
     refine ⟨.of (by kernel_rfl),.of (by kernel_rfl),.of (by kernel_rfl),?_⟩
     refine aloopT mixs (by decide) (fun i:Nat=>{ s:=mkS [(0,.d (.str t)),(3,.d (.int .i64 i))],b:=mkB [] }) (fun i:Nat=>i≤t.length∧∀ j (h:j<t.length),j<i→nameB t[j]=true) (fun i=>t.length - i) 0 (by simp) (sub_mk _ [] .nil (by simp)) ?_
     clear ht htl hl hl' hl3 h1 h2
     rintro i ⟨hi,ho⟩
     by_cases hlt:i<t.length
     ·have hlt':(i:Int)<t.length:=by omega
      have hg:t[i]?=some t[i]:=List.getElem?_eq_getElem hlt
      simp [hlt,hlt',hg]
      refine ⟨.of (by kernel_rfl),?_⟩
      have hbad:nameB t[i]=false→A=false:=fun h=>by
       rw [← hA]
       cases hx:t.all nameB with
       | false=>rfl
       | true=>rw [List.all_eq_true.1 hx _ (List.getElem_mem hlt)] at h; cases h
      have hgood:nameB t[i]=true→∀ j (h:j<t.length),j<i+1→nameB t[j]=true:=fun h j hj hji=>by
       rcases Nat.lt_or_ge j i with c | c
       ·exact ho j hj c
       ·have:j=i:=by omega
        subst this
        exact h
      generalize hb:t[i]=b at *
      have hgi:∀ h,t[i]'h=b:=fun _=>hb
      have hnb:nameB b=(decide (97≤b.toNat)&&decide (b.toNat≤122)||(decide (48≤b.toNat)&&decide (b.toNat≤57)||b.toNat==95)):=rfl
      clear ho hA
      (repeat' (first|contradiction|exact .ok|apply And.intro|intro _|(refine gc (fun h=>?_) (fun h=>?_)<;>(have h':=h;(try simp at h');first|done|simp[h,h',hg,hlt,hgi]|simp[hg,hlt,hgi]))))
      all_goals first
       | (refine ⟨i+1,⟨hlt,hgood ?_⟩,sub_mk _ [] .nil ?_,?_⟩
          ·clear hbad hgood hb hgi hR; first | (rw [hnb]; simp_all; done) | (rw [hnb]; simp_all; omega)
          ·simp; exact wrap_in (by omega) (by omega)
          ·simp; omega)
       | (rw [← hR,show A=false by (apply hbad; clear hbad hgood hb hgi hR; first | (rw [hnb]; simp_all; done) | (rw [hnb]; simp_all; omega))]; simp)
     ·have hlt':¬ (i:Int)<t.length:=by omega
      have:A=true:=by
       rw [← hA,List.all_eq_true]
       intro x hx
       obtain ⟨j,hj,rfl⟩:=List.getElem_of_mem hx
       exact ho j hj (by omega)
      subst this
      clear ho hA hi
      simp [hlt,hlt']
      refine ⟨.of (by kernel_rfl),?_⟩
      refine acallT_plain r_reserved (by simp) ?_
      simp
      (repeat refine ⟨.of (by kernel_rfl),?_⟩)
      refine aloopT mixs (by decide) (fun i:Nat=>{ s:=mkS [(0,.d (.str t)),(4,.d (.sl (words.map fun w=>[.str w]))),(5,.d (.int .i64 i))],b:=mkB [] }) (fun i:Nat=>i≤words.length∧(words.drop i).contains t=W) (fun i=>words.length - i) 0 (by simp [← hW]) (sub_mk _ [] .nil (by simp)) ?_
      clear hlt hlt' i
      rintro i ⟨hi,ho⟩
      by_cases hlt:i<words.length
      ·have hlt':(i:Int)<words.length:=by omega
       obtain ⟨v,hg⟩:∃ v,words[i]?=some v:=⟨_,List.getElem?_eq_getElem hlt⟩
       have hgi:∀ h,words[i]'h=v:=fun h=>(List.getElem?_eq_some_iff.1 hg).2
       have hd:words.drop i=v::words.drop (i+1):=by rw [List.drop_eq_getElem_cons hlt,hgi]
       rw [hd] at ho
       simp [hlt,hlt',hg,hgi]
       refine ⟨.of (by kernel_rfl),.of (by kernel_rfl),fun h=>⟨.of (by kernel_rfl),?_⟩,fun h=>⟨.of (by kernel_rfl),i+1,⟨hlt,?_⟩,sub_mk _ [] .nil ?_,?_⟩⟩
       ·subst h
        simp at ho
        rw [← hR,← ho]; simp
       ·rw [← ho]
        simp
        intro e
        exact absurd e.symm h
       ·simp
        have:words.length=52:=rfl
        exact wrap_in (by omega) (by omega)
       ·simp; omega
      ·have hlt':¬ (i:Int)<words.length:=by omega
       have hWf:W=false:=by
        rw [← ho,List.drop_eq_nil_of_le (by omega)]; rfl
       simp [hlt,hlt']
       refine ⟨.of (by kernel_rfl),.of (by kernel_rfl),?_⟩
       rw [← hR,hWf,hc]; rfl
    ·have hc':lowr c=false:=by simpa using hc
     have hRf:R=false:=by rw [← hR,hc']; rfl
     subst hRf
     clear hR
     unfold lowr at hc'
     simp [hl,hl',hl3]
     (repeat' (first|contradiction|exact .ok|apply And.intro|intro _|(refine gc (fun h=>?_) (fun h=>?_)<;>(have h':=h;(try simp at h');first|done|simp[h,h',hl3]|simp[hl3]))))
     all_goals first | (simp_all; done) | (simp_all; omega)
   ·have hn:nameOk words (c::s)=false:=by unfold nameOk; simp; intro h; omega
    rw [hn]
    have hl':(16:Int)<(s.length:Int)+1:=by omega
    have hl3:¬ (s.length:Int)+1<1:=by omega
    have hl4:(1:Int)≤(s.length:Int)+1:=by omega
    simp [hl,hl',hl3,hl4]
    (repeat' (first|contradiction|exact .ok|apply And.intro|intro _|(refine gc (fun h=>?_) (fun h=>?_)<;>(have h':=h;(try simp at h');first|done|simp[h,h',hl',hl3,hl4]|simp[hl',hl3,hl4]))))
    all_goals simp_all
end Go.Proofs.Tryz
namespace Go.Proofs.Tryz
open Go.Ab
set_option maxRecDepth 100000
set_option maxHeartbeats 1000000
structure OrdOk (S:List Tb) (l:List Int):Prop where
 nd:l.Nodup
 rng:∀ z∈l,0≤z∧z<S.length
 bef:∀ (o:Nat) (h:o<l.length),∀ f∈fkO S l[o].toNat,tgt S f∈l.take o
theorem ordOk_nil (S:List Tb):OrdOk S []:=⟨List.nodup_nil,fun z h=>(by cases h),fun o h=>absurd h (by simp)⟩
theorem fidx_is {α:Type} {p:α→Bool}:∀ {l:List α} {i:Nat},0≤fidx p l i→∃ (j:Nat) (x:α),fidx p l i=(i:Int)+j∧l[j]?=some x∧p x=true
 | [],i,h=>by rw [fidx] at h; omega
 | x::l,i,h=>by
   rw [fidx] at h ⊢
   split
   ·rename_i hx; exact ⟨0,x,by simp,rfl,hx⟩
   ·rename_i hx
    rw [if_neg hx] at h
    obtain ⟨j,y,a,b,c⟩:=fidx_is h
    exact ⟨j+1,y,by rw [a]; push_cast; omega,by simpa using b,c⟩
theorem nextR_is {S:List Tb} {done:Nat→Bool} (h:0≤nextR S done):∃ k:Nat,nextR S done=k∧k<S.length∧rdyO S done k=true:=by
 unfold nextR at h ⊢
 obtain ⟨j,x,a,b,c⟩:=fidx_is h
 rw [seqF_get] at b
 split at b <;> simp only [Option.some.injEq,reduceCtorEq] at b
 rename_i hj
 subst b
 exact ⟨j,by rw [a]; simp,hj,c⟩
theorem loopR_ok {S:List Tb} (hT:∀ k,∀ f∈fkO S k,0≤tgt S f):∀ (n:Nat) {done:Nat→Bool} {out:List Int},(∀ k:Nat,done k=true↔(k:Int)∈out)→OrdOk S out→OrdOk S (loopR S n done out).1
 | 0,_,_,_,h=>h
 | n+1,done,out,hd,h=>by
   rw [loopR]
   split
   ·exact ordOk_nil S
   ·rename_i hz
    obtain ⟨k,hk,hkl,hr⟩:=nextR_is (S:=S) (done:=done) (by omega)
    rw [hk]
    unfold rdyO at hr
    rw [Bool.and_eq_true,Bool.not_eq_true',List.all_eq_true] at hr
    have hno:(k:Int) ∉ out:=fun hm=>by
     have:=(hd k).2 hm
     rw [hr.1] at this; cases this
    refine loopR_ok hT n (fun j=>?_) ⟨?_,fun z hzm=>?_,fun o ho f hf=>?_⟩
    ·unfold dnO
     rw [Bool.or_eq_true,hd j,decide_eq_true_eq,List.mem_append,List.mem_singleton]
    ·rw [List.nodup_append]
     refine ⟨h.nd,by simp,fun a ha b hb e=>?_⟩
     rw [List.mem_singleton] at hb
     subst hb e
     exact hno ha
    ·rcases List.mem_append.1 hzm with hm | hm
     ·exact h.rng z hm
     ·rw [List.mem_singleton] at hm; subst hm; omega
    ·rcases Nat.lt_or_ge o out.length with ho2 | ho2
     ·rw [List.getElem_append_left ho2] at hf
      rw [List.take_append_of_le_length (by omega)]
      exact h.bef o ho2 f hf
     ·obtain rfl:o=out.length:=by simp at ho; omega
      rw [List.getElem_append_right (Nat.le_refl _)] at hf
      simp only [Nat.sub_self,List.getElem_cons_zero,Int.toNat_natCast] at hf
      rw [List.take_left']
      ·have h0:=hT k f hf
       have hdn:=hr.2 f hf
       have:=(hd (tgt S f).toNat).1 hdn
       rwa [Int.toNat_of_nonneg h0] at this
      ·rfl
theorem ordS_ok (S:List Tb):OrdOk S (ordS S).1:=by
 rw [ordS_ref]
 split
 ·exact ordOk_nil S
 ·rename_i h
  exact loopR_ok (fun k=>miss_all (by simpa using h) k) _ (fun k=>by simp) (ordOk_nil S)
theorem loopR_len (S:List Tb):∀ (n:Nat) (done:Nat→Bool) (out:List Int),(loopR S n done out).1.length≤n+out.length
 | 0,_,out=>by simp [loopR]
 | n+1,done,out=>by
   rw [loopR]
   split
   ·simp
   ·have:=loopR_len S n (dnO done (nextR S done)) (out++[nextR S done])
    simp at this ⊢
    omega
theorem ordS_len (S:List Tb):(ordS S).1.length≤S.length:=by
 rw [ordS_ref]
 split
 ·simp
 ·have:=loopR_len S S.length (fun _=>false) []
  simpa using this
end Go.Proofs.Tryz
