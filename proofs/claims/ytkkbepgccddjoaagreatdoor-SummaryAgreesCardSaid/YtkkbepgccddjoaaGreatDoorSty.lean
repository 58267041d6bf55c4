import Derived.Test.YtkkbepgccddjoaaGreatDoorSky
set_option linter.all false
namespace Go.Proofs.Tryz
open Go.Ab
set_option maxRecDepth 100000
set_option maxHeartbeats 2000000
def tysT (x:Tb) (j:Nat):List Int:=(x.cols.take j).map Col.t
theorem tysT_len {x:Tb} {j:Nat} (h:j≤x.cols.length):(tysT x j).length=j:=by unfold tysT; simp; omega
theorem tysT_succ {x:Tb} {j:Nat} (h:j<x.cols.length):tysT x (j+1)=tysT x j++[x.cols[j].t]:=by unfold tysT; rw [take_snoc h,List.map_append]; rfl
theorem tysT_full (x:Tb):tysT x x.cols.length=x.cols.map Col.t:=by simp [tysT]
theorem ints_snoc (l:List Int) (z:Int):ints (l++[z])=ints l++[[.int .i64 z]]:=by simp [ints]
theorem s_types (x:Tb) (hx:x.ok):Cf En 210 [x.a] [] (.d (.sl (ints (x.cols.map Col.t)))) []:=by
 refine cf_intro mix (fn:=Tryz.f210) (by kernel_rfl) rfl (by kernel_rfl) (by decide) (by simp) ?_
 have hl:=hx.cols
 simp [Tb.a,Tb.c]
 (repeat' (first|contradiction|exact .ok|apply And.intro|intro _|(refine gc (fun h=>?_) (fun h=>?_)<;>(have h':=h;(try simp at h');first|done|simp[h,h']|simp))))
 refine aloopT mix (by decide) (fun j:Nat=>{ s:=mkS [(3,.ref 900 0 j 1),(7,.d (.sl (x.cols.map Col.c))),(8,.d (.int .i64 x.cols.length)),(9,.d (.int .i64 j))],b:=mkB [(900,900,.arr 3 1 (ints (tysT x j)) false)] }) (fun j=>j≤x.cols.length) (fun j=>x.cols.length - j) 0 (by simp)
  (sub_mkn 3 900 3 1 (by simp) (by simp) (by decide) (by decide) _ [(900,900,_)] ⟨by simp,by simp,by simp [renOf,Blk.live,tysT,ints],by simp⟩ (by simp [renOf])) ?_
 intro j hj
 have hLl:=tysT_len hj
 by_cases hjl:j<x.cols.length
 ·obtain ⟨c,hc⟩:∃ c,c=x.cols[j]:=⟨_,rfl⟩
  have hgc:∀ h,x.cols[j]'h=c:=fun _=>hc.symm
  have hwj:=wrap_in (n:=(j:Int)+1) (by omega) (by omega)
  have hnx:=tysT_succ hjl
  rw [← hc] at hnx
  generalize hL:tysT x j=L at *
  have htk:(ints L).take j=ints L:=List.take_of_length_le (by simp [hLl])
  simp [hjl,hgc,Col.c,hLl,htk,szs j (by omega) 8 (by decide),szs (j+1) (by omega) 8 (by decide)]
  (repeat' (first|contradiction|exact .ok|apply And.intro|intro _|(refine gc (fun h=>?_) (fun h=>?_)<;>(have h':=h;(try simp at h');first|done|simp[h,h']|simp))))
  refine ⟨j+1,by omega,?_,by simp; omega⟩
  exact sub_mk _ [(900,17,_)] ⟨by simp,by simp,by simp [renOf,Blk.live,hnx,ints_snoc],by simp⟩ (by simp [renOf,hwj])
 obtain rfl:j=x.cols.length:=by omega
 rw [tysT_full]
 have htk:(ints (x.cols.map Col.t)).take x.cols.length=ints (x.cols.map Col.t):=List.take_of_length_le (by simp)
 simp [htk]
 all_goals exact gz
theorem r_types3 (x:Tb) (hx:x.ok):Cf En 172 [x.a] [] (.d (.sl (ints (x.cols.map Col.t)))) []:=by
 refine cf_intro mix (fn:=Tryz.f172) (by kernel_rfl) rfl (by kernel_rfl) (by decide) (by simp) ?_
 have hl:=hx.cols
 simp [Tb.a,Tb.c]
 (repeat' (first|contradiction|exact .ok|apply And.intro|intro _|(refine gc (fun h=>?_) (fun h=>?_)<;>(have h':=h;(try simp at h');first|done|simp[h,h']|simp))))
 refine aloopT mix (by decide) (fun j:Nat=>{ s:=mkS [(1,.ptr 1 0 0),(3,.ref 900 0 j 1),(4,.d (.int .i64 j))],b:=mkB [(1,1,.var (x.c.map AV.d)),(900,900,.arr 3 1 (ints (tysT x j)) false)] }) (fun j=>j≤x.cols.length) (fun j=>x.cols.length - j) 0 (by simp)
  (sub_mkn 3 900 3 1 (by simp) (by simp) (by decide) (by decide) _ [(1,1,_),(900,900,_)] ⟨by simp,by simp,by simp [renOf,Blk.live,tysT,ints,Tb.c],by simp⟩ (by simp [renOf])) ?_
 intro j hj
 have hLl:=tysT_len hj
 by_cases hjl:j<x.cols.length
 ·obtain ⟨c,hc⟩:∃ c,c=x.cols[j]:=⟨_,rfl⟩
  have hgc:∀ h,x.cols[j]'h=c:=fun _=>hc.symm
  have hwj:=wrap_in (n:=(j:Int)+1) (by omega) (by omega)
  have hnx:=tysT_succ hjl
  rw [← hc] at hnx
  generalize hL:tysT x j=L at *
  have htk:(ints L).take j=ints L:=List.take_of_length_le (by simp [hLl])
  simp [hjl,hgc,Tb.c,Col.c,hLl,htk,szs j (by omega) 8 (by decide),szs (j+1) (by omega) 8 (by decide)]
  (repeat' (first|contradiction|exact .ok|apply And.intro|intro _|(refine gc (fun h=>?_) (fun h=>?_)<;>(have h':=h;(try simp at h');first|done|simp[h,h']|simp))))
  refine ⟨j+1,by omega,?_,by simp; omega⟩
  exact sub_mk _ [(1,1,_),(900,20,_)] ⟨by simp,by simp,by simp [renOf,Blk.live,hnx,ints_snoc,Tb.c],by simp⟩ (by simp [renOf,hwj])
 obtain rfl:j=x.cols.length:=by omega
 rw [tysT_full]
 have htk:(ints (x.cols.map Col.t)).take x.cols.length=ints (x.cols.map Col.t):=List.take_of_length_le (by simp)
 simp [Tb.c,htk]
 all_goals exact gz
theorem r_listed (x:Tb) (hx:x.ok) (l:List Int) (hl:l.length≤1000):Cf En 171 [x.a,.d (.sl (ints l))] [] (.d (.bool (listB x.cols.length l))) []:=by
 refine cf_intro mix (fn:=Tryz.f171) (by kernel_rfl) rfl (by kernel_rfl) (by decide) (by simp) ?_
 have hcl:=hx.cols
 simp [Tb.a,Tb.c]
 (repeat' (first|contradiction|exact .ok|apply And.intro|intro _|(refine gc (fun h=>?_) (fun h=>?_)<;>(have h':=h;(try simp at h');first|done|simp[h,h']|simp))))
 refine aloopT mix (by decide) (fun i:Nat=>{ s:=mkS [(1,.d (.sl (ints l))),(2,.ptr 2 0 0),(5,.d (.int .i64 i))],b:=mkB [(2,2,.var (x.c.map AV.d))] }) (fun i=>i≤l.length∧okL x.cols.length (l.take i) (l.drop i)=okL x.cols.length [] l) (fun i=>l.length - i) 0 (by simp) (sub_mk _ [(2,2,_)] ⟨by simp,by simp,by simp [renOf,Blk.live,Tb.c],by simp⟩ (by simp [renOf])) ?_
 rintro i ⟨hi,hf⟩
 by_cases hlt:i<l.length
 ·rw [okL_drop hlt] at hf
  have hw:=wrap_in (n:=(i:Int)+1) (by omega) (by omega)
  obtain ⟨u,hu⟩:∃ u,u=l[i]:=⟨_,rfl⟩
  have hgi:∀ h,l[i]'h=u:=fun _=>hu.symm
  have hg:=ints_get hlt
  rw [← hu] at hf hg
  have hbad:(decide (0≤u)&&(decide (u<x.cols.length)&&!(l.take i).contains u))=false→listB x.cols.length l=false:=fun h=>by
   rw [h,Bool.false_and] at hf
   unfold listB
   rw [← hf]; rfl
  by_cases h1:u<0
  ·have hb:=hbad (by simp; intro h; omega)
   simp [hlt,hgi,hg,h1,hb]
   (repeat' (first|contradiction|exact .ok|apply And.intro|intro _|(refine gc (fun h=>?_) (fun h=>?_)<;>(have h':=h;(try simp at h');first|done|simp[h,h',h1]|simp[h1]))))
  by_cases h2:(x.cols.length:Int)≤u
  ·have hb:=hbad (by simp; intro h h'; omega)
   simp [hlt,hgi,hg,h1,h2,hb,Tb.c]
   (repeat' (first|contradiction|exact .ok|apply And.intro|intro _|(refine gc (fun h=>?_) (fun h=>?_)<;>(have h':=h;(try simp at h');first|done|simp[h,h',h1,h2,Tb.c,hlt,hgi,hg]|simp[h1,h2,Tb.c,hlt,hgi,hg]))))
  have h3:0≤u:=by omega
  have h4:u<x.cols.length:=by omega
  simp [hlt,hgi,hg,h1,h2,Tb.c]
  (repeat' (first|contradiction|exact .ok|apply And.intro|intro _|(refine gc (fun h=>?_) (fun h=>?_)<;>(have h':=h;(try simp at h');first|done|simp[h,h',h1,h2,Tb.c,hlt,hgi,hg]|simp[h1,h2,Tb.c,hlt,hgi,hg]))))
  refine aloopT mix (by decide) (fun k:Nat=>{ s:=mkS [(1,.d (.sl (ints l))),(2,.ptr 2 0 0),(5,.d (.int .i64 i)),(6,.d (.int .i64 k))],b:=mkB [(2,2,.var (x.c.map AV.d))] }) (fun k=>k≤i∧(l.take k).contains u=false) (fun k=>i - k) 0 (by simp) (sub_mk _ [(2,2,_)] ⟨by simp,by simp,by simp [renOf,Blk.live,Tb.c],by simp⟩ (by simp [renOf])) ?_
  rintro k ⟨hk,hc⟩
  by_cases hkl:k<i
  ·have hkl2:k<l.length:=by omega
   have hgk:=ints_get hkl2
   have hct:=contains_take (c:=u) hkl2
   obtain ⟨v,hv⟩:∃ v,v=l[k]:=⟨_,rfl⟩
   have hgk2:∀ h,l[k]'h=v:=fun _=>hv.symm
   rw [← hv] at hgk hct
   have hwk:=wrap_in (n:=(k:Int)+1) (by omega) (by omega)
   by_cases he:v=u
   ·subst he
    have hcc:(l.take i).contains v=true:=by
     rw [List.contains_iff_mem,hv]
     exact List.mem_take_iff_getElem.2 ⟨k,by omega,rfl⟩
    have hb:=hbad (by rw [hcc]; simp)
    simp [hkl,hkl2,hlt,hgk,hgk2,hg,hgi,hb]
    all_goals exact gz
   ·have he':¬ u=v:=fun e=>he e.symm
    simp [hkl,hkl2,hlt,hgk,hgk2,hg,hgi,he]
    (repeat' (first|contradiction|exact .ok|apply And.intro|intro _|(refine gc (fun h=>?_) (fun h=>?_)<;>(have h':=h;(try simp at h');first|done|simp[h,h',he]|simp[he]))))
    refine ⟨k+1,⟨by omega,by rw [hct,hc]; simpa using he'⟩,?_,by simp; omega⟩
    exact sub_mk _ [(2,2,_)] ⟨by simp,by simp,by simp [renOf,Blk.live,Tb.c],by simp⟩ (by simp [renOf,hwk])
  ·obtain rfl:k=i:=by omega
   simp
   (repeat' (first|contradiction|exact .ok|apply And.intro|intro _|(refine gc (fun h=>?_) (fun h=>?_)<;>(have h':=h;(try simp at h');first|done|simp[h,h']|simp))))
   refine ⟨k+1,⟨by omega,?_⟩,?_,by simp; omega⟩
   ·rw [← hf,hc]; simp [h3,h4]
   ·exact sub_mk _ [(2,2,_)] ⟨by simp,by simp,by simp [renOf,Blk.live,Tb.c],by simp⟩ (by simp [renOf,hw])
 obtain rfl:i=l.length:=by omega
 rw [List.drop_length,okL] at hf
 unfold listB
 rw [← hf]
 cases l with
 | nil =>
   simp
   all_goals exact gz
 | cons a l =>
   have hne:(0:Int)<(l.length:Int)+1:=by omega
   simp [hne]
   (repeat' (first|contradiction|exact .ok|apply And.intro|intro _|(refine gc (fun h=>?_) (fun h=>?_)<;>(have h':=h;(try simp at h');first|done|simp[h,h',hne]|simp[hne]))))
end Go.Proofs.Tryz
