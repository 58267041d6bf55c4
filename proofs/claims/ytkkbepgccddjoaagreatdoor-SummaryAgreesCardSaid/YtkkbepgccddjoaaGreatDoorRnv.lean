import Derived.Test.YtkkbepgccddjoaaGreatDoorAHRow
import Derived.Test.YtkkbepgccddjoaaGreatDoorARko
import Derived.Test.YtkkbepgccddjoaaGreatDoorOrt
set_option linter.all false
namespace Go.Proofs.Tryz
open Go.Ab
set_option maxRecDepth 100000
set_option maxHeartbeats 8000000
theorem r9_in (l:List Int) (hl:l.length≤1000) (n:Int) (h:n ∉ l):Cf En 122 [.d (.sl (ints l)),.d (.int .i64 n)] [] (.d (.bool false)) []:=by
 refine cf_intro mix (fn:=Tryz.f122) (by kernel_rfl) rfl (by kernel_rfl) (by decide) (by simp) ?_
 simp [ints_len]
 (repeat' (first|contradiction|exact .ok|apply And.intro|intro _|(refine gc (fun h=>?_) (fun h=>?_)<;>(have h':=h;(try simp at h');first|done|simp[h,h']|simp))))
 refine aloopT mix (by decide) (fun i:Nat=>{ s:=mkS [(0,.d (.sl (ints l))),(1,.d (.int .i64 n)),(5,.d (.int .i64 i))],b:=mkB [] }) (fun i:Nat=>i≤l.length) (fun i=>l.length - i) 0 (by simp) (sub_mk _ [] .nil (by simp)) ?_
 intro i hi
 by_cases hlt:i<l.length
 ·have hw:=wrap_in (n:=(i:Int)+1) (by omega) (by omega)
  have hne:¬ l[i]=n:=fun e=>h (by rw [← e]; exact List.getElem_mem hlt)
  simp [hlt,hne,ints]
  (repeat' (first|contradiction|exact .ok|apply And.intro|intro _|(refine gc (fun h=>?_) (fun h=>?_)<;>(have h':=h;(try simp at h');first|done|simp[h,h',hne]|simp[hne]))))
  refine ⟨i+1,by omega,?_,by simp; omega⟩
  exact sub_mk _ [] .nil (by simp [hw,ints])
 obtain rfl:i=l.length:=by omega
 simp [ints]
 all_goals exact gz
def pickV (row:List V) (cols:List Int):List V:=cols.map fun c=>(row[c.toNat]?).getD nulV
theorem r9_pick (row:List V) (cols:List Int) (hl:cols.length≤1000) (h:∀ c∈cols,0≤c∧c.toNat<row.length):Cf En 124 [.d (.sl (row.map V.c)),.d (.sl (ints cols))] [] (.d (.sl ((pickV row cols).map V.c))) []:=by
 refine cf_intro mix (fn:=Tryz.f124) (by kernel_rfl) rfl (by kernel_rfl) (by decide) (by simp) ?_
 simp
 (repeat' (first|contradiction|exact .ok|apply And.intro|intro _|(refine gc (fun h=>?_) (fun h=>?_)<;>(have h':=h;(try simp at h');first|done|simp[h,h']|simp))))
 refine aloopT mix (by decide) (fun i:Nat=>{ s:=mkS [(0,.d (.sl (row.map V.c))),(1,.d (.sl (ints cols))),(5,.ref 905 0 i 3),(6,.d (.int .i64 i))],b:=mkB [(905,905,.arr 92 3 ((pickV row (cols.take i)).map V.c) false)] }) (fun i:Nat=>i≤cols.length) (fun i=>cols.length - i) 0 (by simp)
  (sub_mkn 5 905 92 3 (by simp) (by simp) (by decide) (by decide) _ [(905,905,_)] ⟨by simp,by simp,by simp [renOf,Blk.live,pickV],by simp⟩ (by simp [renOf])) ?_
 intro i hi
 have hPl:(pickV row (cols.take i)).length=i:=by unfold pickV; rw [List.length_map,List.length_take]; omega
 by_cases hlt:i<cols.length
 ·have hw:=wrap_in (n:=(i:Int)+1) (by omega) (by omega)
  obtain ⟨h0,h1⟩:=h cols[i] (List.getElem_mem hlt)
  have hsu:pickV row (cols.take (i+1))=pickV row (cols.take i)++[row[cols[i].toNat]]:=by
   unfold pickV
   rw [take_snoc hlt,List.map_append,List.map_cons,List.map_nil,List.getElem?_eq_getElem h1]
   rfl
  obtain ⟨c,hc⟩:∃ c:Nat,cols[i]=c:=⟨cols[i].toNat,by omega⟩
  have hgc:∀ h,cols[i]'h=(c:Int):=fun _=>hc
  rw [hc,Int.toNat_natCast] at h1
  simp only [hc,Int.toNat_natCast] at hsu
  have htk:((pickV row (cols.take i)).map V.c).take i=(pickV row (cols.take i)).map V.c:=List.take_of_length_le (by simp [hPl])
  generalize pickV row (cols.take i)=P at *
  simp [hlt,hgc,h1,hPl,htk,V.c,szs i (by omega) 32 (by decide),szs (i+1) (by omega) 32 (by decide)]
  (repeat' (first|contradiction|exact .ok|apply And.intro|intro _|(refine gc (fun h=>?_) (fun h=>?_)<;>(have h':=h;(try simp at h');first|done|simp[h,h',hgc,h1]|simp[hgc,h1]))))
  refine ⟨i+1,by omega,?_,by simp; omega⟩
  simp only [hsu]
  exact sub_mk _ [(905,22,_)] ⟨by simp,by simp,by simp [renOf,Blk.live,V.c],by simp⟩ (by simp [renOf,hw])
 obtain rfl:i=cols.length:=by omega
 rw [List.take_length] at *
 have htk:((pickV row cols).map V.c).take cols.length=(pickV row cols).map V.c:=List.take_of_length_le (by simp [hPl])
 simp [hPl,htk]
 all_goals exact gz
theorem r9_null (l:List V) (hl:l.length≤1000) (h:∀ v∈l,v.k ≠ 0):Cf En 125 [.d (.sl (l.map V.c))] [] (.d (.bool false)) []:=by
 refine cf_intro mix (fn:=Tryz.f125) (by kernel_rfl) rfl (by kernel_rfl) (by decide) (by simp) ?_
 simp
 (repeat' (first|contradiction|exact .ok|apply And.intro|intro _|(refine gc (fun h=>?_) (fun h=>?_)<;>(have h':=h;(try simp at h');first|done|simp[h,h']|simp))))
 refine aloopT mix (by decide) (fun i:Nat=>{ s:=mkS [(0,.d (.sl (l.map V.c))),(3,.d (.int .i64 i))],b:=mkB [] }) (fun i:Nat=>i≤l.length) (fun i=>l.length - i) 0 (by simp) (sub_mk _ [] .nil (by simp)) ?_
 intro i hi
 by_cases hlt:i<l.length
 ·have hw:=wrap_in (n:=(i:Int)+1) (by omega) (by omega)
  have hne:=h l[i] (List.getElem_mem hlt)
  simp [hlt,hne,V.c]
  (repeat' (first|contradiction|exact .ok|apply And.intro|intro _|(refine gc (fun h=>?_) (fun h=>?_)<;>(have h':=h;(try simp at h');first|done|simp[h,h',hne]|simp[hne]))))
  refine ⟨i+1,by omega,?_,by simp; omega⟩
  exact sub_mk _ [] .nil (by simp [hw])
 obtain rfl:i=l.length:=by omega
 simp
 all_goals exact gz
theorem cmp_num {a b:Int}:cmpRows [⟨1,a,[]⟩] [⟨1,b,[]⟩]=cmpI a b:=by
 have h1:cmpI (1:Int) 1=0:=by decide
 have h2:cmpS [] []=0:=by decide
 simp only [cmpRows,V.cmp_def,h1,h2]
 by_cases h:cmpI a b=0 <;> simp [h]
theorem cmpI_ne {a b:Int} (h:a ≠ b):cmpI a b ≠ 0:=fun e=>h (cmpI_eq e)
theorem r9_repeated (kd n ix:Int) (p:Nat) (R:List (List V)) (hR:R.length≤100000) (h:∀ (r:Nat) row,R[r]?=some row→row[p]?=some ⟨1,(r:Int)+1,[]⟩) (nb:Bool) :
  Cf En 123 [.d (.int .i64 kd),.d (.int .i64 n),.d (.int .i64 ix),.d (.sl (ints [(p:Int)])),.d (.sl (R.map rowD)),.d (.bool nb)] [] (.d (.sl [])) []:=by
 refine cf_intro mix (fn:=Tryz.f123) (by kernel_rfl) rfl (by kernel_rfl) (by decide) (by simp) ?_
 have hpick:∀ (r:Nat) (hr:r<R.length),Cf En 124 [.d (.sl (R[r].map V.c)),.d (.sl (ints [(p:Int)]))] [] (.d (.sl ([(⟨1,(r:Int)+1,[]⟩:V)].map V.c))) []:=fun r hr=>by
  have hx:=h r R[r] (List.getElem?_eq_getElem hr)
  have hp:p<R[r].length:=(List.getElem?_eq_some_iff.1 hx).1
  have:=r9_pick R[r] [(p:Int)] (by simp) (by simp; exact hp)
  unfold pickV at this
  simp only [List.map_cons,List.map_nil,Int.toNat_natCast,hx,Option.getD_some] at this
  exact this
 simp
 (repeat' (first|contradiction|exact .ok|apply And.intro|intro _|(refine gc (fun h=>?_) (fun h=>?_)<;>(have h':=h;(try simp at h');first|done|simp[h,h']|simp))))
 refine aloopT mix (by decide) (fun r:Nat=>{ s:=mkS [(0,.d (.int .i64 kd)),(1,.d (.int .i64 n)),(2,.d (.int .i64 ix)),(3,.d (.sl (ints [(p:Int)]))),(4,.d (.sl (R.map rowD))),(5,.d (.bool nb)),(13,.nils),(14,.d (.int .i64 r))],b:=mkB [] }) (fun r:Nat=>r≤R.length) (fun r=>R.length - r) 0 (by simp) (sub_mk _ [] .nil (by simp)) ?_
 intro r hr
 by_cases hlt:r<R.length
 ·have hw:=wrap_in (n:=(r:Int)+1) (by omega) (by omega)
  have hpr:=hpick r hlt
  have hnu:=r9_null [(⟨1,(r:Int)+1,[]⟩:V)] (by simp) (by simp)
  simp [hlt,rowD]
  (repeat' (first|contradiction|exact .ok|apply And.intro|intro _|(refine gc (fun h=>?_) (fun h=>?_)<;>(have h':=h;(try simp at h');first|done|simp[h,h']|simp))))
  refine acallT_plain hpr (by simp) ?_
  simp
  (repeat' (first|contradiction|exact .ok|apply And.intro|intro _|(refine gc (fun h=>?_) (fun h=>?_)<;>(have h':=h;(try simp at h');first|done|simp[h,h']|simp))))
  refine acallT_plain hnu (by simp) ?_
  simp
  (repeat' (first|contradiction|exact .ok|apply And.intro|intro _|(refine gc (fun h=>?_) (fun h=>?_)<;>(have h':=h;(try simp at h');first|done|simp[h,h']|simp))))
  refine aloopT mix (by decide) (fun k:Nat=>{ s:=mkS [(0,.d (.int .i64 kd)),(1,.d (.int .i64 n)),(2,.d (.int .i64 ix)),(3,.d (.sl (ints [(p:Int)]))),(4,.d (.sl (R.map rowD))),(5,.d (.bool nb)),(13,.nils),(14,.d (.int .i64 r)),(15,.d (.sl ([(⟨1,(r:Int)+1,[]⟩:V)].map V.c))),(16,.d (.int .i64 k))],b:=mkB [] }) (fun k:Nat=>k≤r) (fun k=>r - k) 0 (by simp) (sub_mk _ [] .nil (by simp [rowD])) ?_
  intro k hk
  by_cases hkr:k<r
  ·have hkl:k<R.length:=by omega
   have hwk:=wrap_in (n:=(k:Int)+1) (by omega) (by omega)
   have hpk:=hpick k hkl
   have hcm:=r_rowsC [(⟨1,(k:Int)+1,[]⟩:V)] [(⟨1,(r:Int)+1,[]⟩:V)] (by simp) (by simp)
   rw [cmp_num] at hcm
   have hne:=cmpI_ne (a:=(k:Int)+1) (b:=(r:Int)+1) (by omega)
   generalize cmpI ((k:Int)+1) ((r:Int)+1)=z at *
   simp [hkr,hkl,rowD]
   (repeat' (first|contradiction|exact .ok|apply And.intro|intro _|(refine gc (fun h=>?_) (fun h=>?_)<;>(have h':=h;(try simp at h');first|done|simp[h,h',hkr,hkl]|simp[hkr,hkl]))))
   refine acallT_plain hpk (by simp) ?_
   simp
   refine acallT_plain hcm (by simp) ?_
   simp [hne]
   (repeat' (first|contradiction|exact .ok|apply And.intro|intro _|(refine gc (fun h=>?_) (fun h=>?_)<;>(have h':=h;(try simp at h');first|done|simp[h,h',hne]|simp[hne]))))
   refine ⟨k+1,by omega,?_,by simp; omega⟩
   exact sub_mk _ [] .nil (by simp [hwk,rowD])
  obtain rfl:k=r:=by omega
  simp
  (repeat' (first|contradiction|exact .ok|apply And.intro|intro _|(refine gc (fun h=>?_) (fun h=>?_)<;>(have h':=h;(try simp at h');first|done|simp[h,h']|simp))))
  refine ⟨k+1,by omega,?_,by simp; omega⟩
  exact sub_mk _ [] .nil (by simp [hw])
 obtain rfl:r=R.length:=by omega
 simp
 all_goals exact gz
theorem r9_rows (x:Tb) (hx:x.ok) (n:Int) (R:List (List V)) (hR:R.length≤100000) (h:∀ row∈R,row.length=x.cols.length∧∀ c v,row[c]?=some v→ValOk x c v∧((c:Int)∈x.pr→v.k ≠ 0)) (hp:x.pr.length≤1000) (hty:∀ u∈x.cols,u.t=1∨u.t=2∨u.t=3) :
  Cf En 81 [x.a,.d (.int .i64 n),.d (.sl (R.map rowD))] [] (.tup [.d (.sl []),.d (.bool true)]) []:=by
 refine cf_intro mix (fn:=Tryz.f81) (by kernel_rfl) rfl (by kernel_rfl) (by decide) (by simp) ?_
 have hcols:=hx.cols
 simp [Tb.a,Tb.c]
 (repeat' (first|contradiction|exact .ok|apply And.intro|intro _|(refine gc (fun h=>?_) (fun h=>?_)<;>(have h':=h;(try simp at h');first|done|simp[h,h']|simp))))
 refine aloopT mix (by decide) (fun r:Nat=>{ s:=mkS [(1,.d (.int .i64 n)),(2,.d (.sl (R.map rowD))),(3,.ptr 3 0 0),(8,.nils),(9,.d (.bool true)),(10,.d (.int .i64 r))],b:=mkB [(3,3,.var (x.c.map AV.d))] }) (fun r:Nat=>r≤R.length) (fun r=>R.length - r) 0 (by simp) (sub_mk _ [(3,3,_)] ⟨by simp,by simp,by simp [renOf,Blk.live,Tb.c],by simp⟩ (by simp [renOf])) ?_
 intro r hr
 by_cases hlt:r<R.length
 ·have hw:=wrap_in (n:=(r:Int)+1) (by omega) (by omega)
  obtain ⟨row,hrow⟩:∃ row,row=R[r]:=⟨_,rfl⟩
  have hgr:∀ h,R[r]'h=row:=fun _=>hrow.symm
  obtain ⟨hrl,hval⟩:=h row (by rw [hrow]; exact List.getElem_mem hlt)
  simp [hlt,hgr,rowD,Tb.c,hrl]
  (repeat' (first|contradiction|exact .ok|apply And.intro|intro _|(refine gc (fun h=>?_) (fun h=>?_)<;>(have h':=h;(try simp at h');first|done|simp[h,h',hrl]|simp[hrl]))))
  refine aloopT mix (by decide) (fun c:Nat=>{ s:=mkS [(1,.d (.int .i64 n)),(2,.d (.sl (R.map rowD))),(3,.ptr 3 0 0),(8,.nils),(9,.d (.bool true)),(10,.d (.int .i64 r)),(11,.d (.int .i64 c))],b:=mkB [(3,3,.var (x.c.map AV.d))] }) (fun c:Nat=>c≤x.cols.length) (fun c=>x.cols.length - c) 0 (by simp) (sub_mk _ [(3,3,_)] ⟨by simp,by simp,by simp [renOf,Blk.live,Tb.c],by simp⟩ (by simp [renOf,rowD])) ?_
  intro c hc
  by_cases hcl:c<x.cols.length
  ·have hwc:=wrap_in (n:=(c:Int)+1) (by omega) (by omega)
   have hcr:c<row.length:=by omega
   obtain ⟨v,hv⟩:∃ v,v=row[c]:=⟨_,rfl⟩
   have hgv:∀ h,row[c]'h=v:=fun _=>hv.symm
   obtain ⟨⟨v1,v2⟩,v3⟩:=hval c v (by rw [List.getElem?_eq_getElem hcr,hv])
   obtain ⟨u,hu⟩:∃ u,u=x.cols[c]:=⟨_,rfl⟩
   have hgu:∀ h,x.cols[c]'h=u:=fun _=>hu.symm
   have huO:colO x c=u:=by unfold colO; rw [List.getElem?_eq_getElem hcl,← hu]; rfl
   rw [huO] at v2
   have hut:=hty u (by rw [hu]; exact List.getElem_mem hcl)
   have hva:=r_valid v
   rw [v1] at hva
   by_cases k0:v.k=0
   ·have hub:u.b=true:=by
     rcases v2 with e | e
     ·omega
     ·exact e.1
    have hin:=r9_in x.pr hp (c:Int) (fun hm=>v3 hm k0)
    simp [hlt,hgr,hcl,hcr,hgv,hgu,rowD,Tb.c,V.c,Col.c]
    (repeat' (first|contradiction|exact .ok|apply And.intro|intro _|(refine gc (fun h=>?_) (fun h=>?_)<;>(have h':=h;(try simp at h');first|done|simp[h,h',hlt,hgr,hcl,hcr,hgv,hgu]|simp[hlt,hgr,hcl,hcr,hgv,hgu]))))
    refine acallT_plain hva (by simp [V.a]) ?_
    simp [k0,hub,hcl,hgu,Col.c,Tb.c]
    (repeat' (first|contradiction|exact .ok|apply And.intro|intro _|(refine gc (fun h=>?_) (fun h=>?_)<;>(have h':=h;(try simp at h');first|done|simp[h,h',k0,hub]|simp[k0,hub]))))
    refine acallT_plain hin (by simp) ?_
    simp
    (repeat' (first|contradiction|exact .ok|apply And.intro|intro _|(refine gc (fun h=>?_) (fun h=>?_)<;>(have h':=h;(try simp at h');first|done|simp[h,h']|simp))))
    refine ⟨c+1,by omega,?_,by simp; omega⟩
    exact sub_mk _ [(3,3,_)] ⟨by simp,by simp,by simp [renOf,Blk.live,Tb.c],by simp⟩ (by simp [renOf,hwc,rowD])
   ·have hkt:v.k=u.t:=by
     rcases v2 with e | e
     ·exact e
     ·exact absurd (by rw [e.2]; rfl) k0
    have hu0:¬ u.t=0:=by omega
    simp [hlt,hgr,hcl,hcr,hgv,hgu,rowD,Tb.c,V.c,Col.c]
    (repeat' (first|contradiction|exact .ok|apply And.intro|intro _|(refine gc (fun h=>?_) (fun h=>?_)<;>(have h':=h;(try simp at h');first|done|simp[h,h',hlt,hgr,hcl,hcr,hgv,hgu]|simp[hlt,hgr,hcl,hcr,hgv,hgu]))))
    refine acallT_plain hva (by simp [V.a]) ?_
    simp [k0,hkt,hu0,hcl,hgu,Col.c,Tb.c]
    (repeat' (first|contradiction|exact .ok|apply And.intro|intro _|(refine gc (fun h=>?_) (fun h=>?_)<;>(have h':=h;(try simp at h');first|done|simp[h,h',k0,hkt,hu0]|simp[k0,hkt,hu0]))))
    refine ⟨c+1,by omega,?_,by simp; omega⟩
    exact sub_mk _ [(3,3,_)] ⟨by simp,by simp,by simp [renOf,Blk.live,Tb.c],by simp⟩ (by simp [renOf,hwc,rowD])
  obtain rfl:c=x.cols.length:=by omega
  simp [Tb.c]
  (repeat' (first|contradiction|exact .ok|apply And.intro|intro _|(refine gc (fun h=>?_) (fun h=>?_)<;>(have h':=h;(try simp at h');first|done|simp[h,h']|simp))))
  refine ⟨r+1,by omega,?_,by simp; omega⟩
  exact sub_mk _ [(3,3,_)] ⟨by simp,by simp,by simp [renOf,Blk.live,Tb.c],by simp⟩ (by simp [renOf,hw])
 obtain rfl:r=R.length:=by omega
 simp
 all_goals exact gz
end Go.Proofs.Tryz
