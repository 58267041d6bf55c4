import Derived.Test.YtkkbepgccddjoaaGreatDoorSvr
set_option linter.all false
namespace Go.Proofs.Tryz
open Go.Ab
set_option maxRecDepth 100000
set_option maxHeartbeats 4000000
theorem s_valid (S:List Tb) (hl:S.length≤1000) (hS:∀ x∈S,x.ok) (hU:∀ x∈S,∀ l∈x.un,l.length≤1000) (ty:Tb→Ex→Int×Int)
  (hty:∀ x∈S,∀ e∈x.ch,Cf Es 92 [.d (.sl (ints (x.cols.map Col.t))),e.a] [] (.tup [.d (.int .i64 (ty x e).1),.d (.int .i64 (ty x e).2)]) []) :
  Cf Es 104 [schA S] [] (.d (.int .i64 (validE nm3 ty S))) []:=by
 refine cf_intro mixs (fn:=Tryz.f104) (by kernel_rfl) rfl (by kernel_rfl) (by decide) (by simp) ?_
 by_cases c1:6<S.length
 ·have i1:(6:Int)<S.length:=by omega
  rw [show validE nm3 ty S=8 from by unfold validE; rw [if_pos c1]]
  simp [schA,i1,c1]
  (repeat' (first|contradiction|exact .ok|apply And.intro|intro _|(refine gc (fun h=>?_) (fun h=>?_)<;>(have h':=h;(try simp at h');first|done|simp[h,h',i1,c1]|simp[i1,c1]))))
 have i1:¬ (6:Int)<S.length:=by omega
 have hR2:thenE (scanE (tabE nm3 ty S) S 0) (thenE (scanE (fun _ x=>scanE (fun _=>refE S x) x.fk 0) S 0) (ordS S).2)=validE nm3 ty S:=by unfold validE; rw [if_neg c1]
 generalize validE nm3 ty S=T at *
 simp [schA,i1,c1]
 (repeat' (first|contradiction|exact .ok|apply And.intro|intro _|(refine gc (fun h=>?_) (fun h=>?_)<;>(have h':=h;(try simp at h');first|done|simp[h,h',i1,c1]|simp[i1,c1]))))
 clear i1 c1
 refine aloopT mixs (by decide) (fun i:Nat=>{ s:=mkS [(1,.ptr 1 0 0),(20,.d (.sl (S.map Tb.c))),(21,.d (.int .i64 S.length)),(22,.d (.int .i64 i))],b:=mkB [(1,1,.var [.d (.sl (S.map Tb.c))])] }) (fun i=>i≤S.length∧scanE (tabE nm3 ty S) (S.drop i) i=scanE (tabE nm3 ty S) S 0) (fun i=>S.length - i) 0 (by simp)
  (sub_mk _ [(1,1,_)] ⟨by simp,by simp,by simp [renOf,Blk.live],by simp⟩ (by simp [renOf])) ?_
 rintro i ⟨hi,hf⟩
 by_cases hlt:i<S.length
 ·rw [scan_drop hlt] at hf
  have hw:=wrap_in (n:=(i:Int)+1) (by omega) (by omega)
  obtain ⟨x,hx⟩:∃ c,c=S[i]:=⟨_,rfl⟩
  have hgi:∀ h,S[i]'h=x:=fun _=>hx.symm
  have hxm:x∈S:=by rw [hx]; exact List.getElem_mem hlt
  obtain ⟨k,hk,hki⟩:=fidx_self (p:=fun d:Tb=>d.n==x.n) (b:=0) hlt (by rw [← hx]; simp)
  have hk':fidx (fun d:Tb=>d.n==x.n) S 0=k:=by rw [hk]; simp
  rw [← hx] at hf
  have hE:tabE nm3 ty S i x=if nm3 x.n=false then 3 else if (k:Int)<i then 5 else tableE nm3 ty x:=by unfold tabE; rw [hk']
  have hbad:∀ z:Int,tabE nm3 ty S i x=z→z ≠ 0→T=z:=fun z h h0=>by
   rw [h,if_pos h0] at hf
   rw [← hR2,← hf,then_bad h0]
  have hgood:tabE nm3 ty S i x=0→scanE (tabE nm3 ty S) (S.drop (i+1)) (i+1)=scanE (tabE nm3 ty S) S 0:=fun h=>by
   rw [h,if_neg (by simp)] at hf
   exact hf
  have htb:=s_table x (hS x hxm) (hU x hxm) ty (hty x hxm)
  generalize tabE nm3 ty S i x=E at *
  simp [hlt,hgi,Tb.c]
  (repeat' (first|contradiction|exact .ok|apply And.intro|intro _|(refine gc (fun h=>?_) (fun h=>?_)<;>(have h':=h;(try simp at h');first|done|simp[h,h']|simp))))
  refine acallT_plain (s_name x.n) (by simp) ?_
  cases hn:nm3 x.n with
  | false =>
    rw [hn,if_pos rfl] at hE
    rw [hbad 3 hE (by decide)]
    simp [hn]
    (repeat' (first|contradiction|exact .ok|apply And.intro|intro _|(refine gc (fun h=>?_) (fun h=>?_)<;>(have h':=h;(try simp at h');first|done|simp[h,h',hn]|simp[hn]))))
  | true =>
    rw [hn,if_neg (by decide)] at hE
    simp [hn]
    (repeat' (first|contradiction|exact .ok|apply And.intro|intro _|(refine gc (fun h=>?_) (fun h=>?_)<;>(have h':=h;(try simp at h');first|done|simp[h,h',hn]|simp[hn]))))
    refine acallT_plain (ups (s_find S hl x.n)) (by simp [schA]) ?_
    rw [place_at hk']
    by_cases hki2:k<i
    ·rw [if_pos (by omega)] at hE
     rw [hbad 5 hE (by decide)]
     simp [hki2]
     (repeat' (first|contradiction|exact .ok|apply And.intro|intro _|(refine gc (fun h=>?_) (fun h=>?_)<;>(have h':=h;(try simp at h');first|done|simp[h,h',hki2]|simp[hki2]))))
    ·rw [if_neg (by omega)] at hE
     simp [hki2]
     (repeat' (first|contradiction|exact .ok|apply And.intro|intro _|(refine gc (fun h=>?_) (fun h=>?_)<;>(have h':=h;(try simp at h');first|done|simp[h,h',hki2]|simp[hki2]))))
     refine acallT_plain htb (by simp [Tb.a,Tb.c]) ?_
     generalize tableE nm3 ty x=e at *
     by_cases he:e=0
     ·simp [he]
      (repeat' (first|contradiction|exact .ok|apply And.intro|intro _|(refine gc (fun h=>?_) (fun h=>?_)<;>(have h':=h;(try simp at h');first|done|simp[h,h',he]|simp[he]))))
      refine ⟨i+1,⟨by omega,hgood (by rw [hE,he])⟩,?_,by simp; omega⟩
      exact sub_mk _ [(1,1,_)] ⟨by simp,by simp,by simp [renOf,Blk.live],by simp⟩ (by simp [renOf,hw])
     ·rw [hbad e hE he]
      simp [he]
      (repeat' (first|contradiction|exact .ok|apply And.intro|intro _|(refine gc (fun h=>?_) (fun h=>?_)<;>(have h':=h;(try simp at h');first|done|simp[h,h',he]|simp[he]))))
 obtain rfl:i=S.length:=by omega
 rw [scan_end (Nat.le_refl _)] at hf
 have hK:=tabE_ok hf.symm
 rw [← hf,then_ok] at hR2
 clear hf hi hlt
 simp
 (repeat' (first|contradiction|exact .ok|apply And.intro|intro _|(refine gc (fun h=>?_) (fun h=>?_)<;>(have h':=h;(try simp at h');first|done|simp[h,h']|simp))))
 refine aloopT mixs (by decide) (fun i:Nat=>{ s:=mkS [(1,.ptr 1 0 0),(48,.d (.sl (S.map Tb.c))),(49,.d (.int .i64 S.length)),(50,.d (.int .i64 i))],b:=mkB [(1,1,.var [.d (.sl (S.map Tb.c))])] }) (fun i=>i≤S.length∧scanE (fun _ x=>scanE (fun _=>refE S x) x.fk 0) (S.drop i) i=scanE (fun _ x=>scanE (fun _=>refE S x) x.fk 0) S 0) (fun i=>S.length - i) 0 (by simp)
  (sub_mk _ [(1,1,_)] ⟨by simp,by simp,by simp [renOf,Blk.live],by simp⟩ (by simp [renOf])) ?_
 rintro i ⟨hi,hf⟩
 by_cases hlt:i<S.length
 ·rw [scan_drop hlt] at hf
  have hw:=wrap_in (n:=(i:Int)+1) (by omega) (by omega)
  obtain ⟨x,hx⟩:∃ c,c=S[i]:=⟨_,rfl⟩
  have hgi:∀ h,S[i]'h=x:=fun _=>hx.symm
  have hxm:x∈S:=by rw [hx]; exact List.getElem_mem hlt
  have hxf:=(hS x hxm).fk
  rw [← hx] at hf
  simp [hlt,hgi,Tb.c]
  (repeat' (first|contradiction|exact .ok|apply And.intro|intro _|(refine gc (fun h=>?_) (fun h=>?_)<;>(have h':=h;(try simp at h');first|done|simp[h,h']|simp))))
  refine aloopT mixs (by decide) (fun j:Nat=>{ s:=mkS [(1,.ptr 1 0 0),(9,.ptr 9 0 0),(48,.d (.sl (S.map Tb.c))),(49,.d (.int .i64 S.length)),(50,.d (.int .i64 i)),(55,.d (.sl (x.fk.map Fk.c))),(56,.d (.int .i64 x.fk.length)),(57,.d (.int .i64 j))],b:=mkB [(1,1,.var [.d (.sl (S.map Tb.c))]),(9,9,.var (x.c.map AV.d))] }) (fun j=>j≤x.fk.length∧scanE (fun _=>refE S x) (x.fk.drop j) j=scanE (fun _=>refE S x) x.fk 0) (fun j=>x.fk.length - j) 0 (by simp)
   (sub_mk _ [(1,1,_),(9,9,_)] ⟨by simp,by simp,by simp [renOf,Blk.live,Tb.c],by simp⟩ (by simp [renOf])) ?_
  rintro j ⟨hj,hg⟩
  by_cases hjl:j<x.fk.length
  ·rw [scan_drop hjl] at hg
   have hwj:=wrap_in (n:=(j:Int)+1) (by omega) (by omega)
   obtain ⟨f,hfx⟩:∃ c,c=x.fk[j]:=⟨_,rfl⟩
   have hgf:∀ h,x.fk[j]'h=f:=fun _=>hfx.symm
   have hfm:f∈x.fk:=by rw [hfx]; exact List.getElem_mem hjl
   have hr:=ups (s_reference S hl hS hK x hxm f hfm)
   rw [← hfx] at hg
   simp [hjl,hgf,Fk.c,Tb.c]
   (repeat' (first|contradiction|exact .ok|apply And.intro|intro _|(refine gc (fun h=>?_) (fun h=>?_)<;>(have h':=h;(try simp at h');first|done|simp[h,h']|simp))))
   refine acallT_plain hr (by simp [schA,Tb.a,Tb.c,Fk.a,Fk.c]) ?_
   generalize refE S x f=e at *
   by_cases he:e=0
   ·rw [if_neg (by simpa using he)] at hg
    simp [he]
    (repeat' (first|contradiction|exact .ok|apply And.intro|intro _|(refine gc (fun h=>?_) (fun h=>?_)<;>(have h':=h;(try simp at h');first|done|simp[h,h',he]|simp[he]))))
    refine ⟨j+1,⟨by omega,hg⟩,?_,by simp; omega⟩
    exact sub_mk _ [(1,1,_),(9,9,_)] ⟨by simp,by simp,by simp [renOf,Blk.live,Tb.c],by simp⟩ (by simp [renOf,hwj])
   ·rw [if_pos he] at hg
    rw [← hg,if_pos he] at hf
    rw [← hf,then_bad he] at hR2
    rw [← hR2]
    simp [he]
    (repeat' (first|contradiction|exact .ok|apply And.intro|intro _|(refine gc (fun h=>?_) (fun h=>?_)<;>(have h':=h;(try simp at h');first|done|simp[h,h',he]|simp[he]))))
  ·obtain rfl:j=x.fk.length:=by omega
   rw [scan_end (Nat.le_refl _)] at hg
   rw [← hg,if_neg (by simp)] at hf
   simp
   (repeat' (first|contradiction|exact .ok|apply And.intro|intro _|(refine gc (fun h=>?_) (fun h=>?_)<;>(have h':=h;(try simp at h');first|done|simp[h,h']|simp))))
   refine ⟨i+1,⟨by omega,hf⟩,?_,by simp; omega⟩
   exact sub_mk _ [(1,1,_)] ⟨by simp,by simp,by simp [renOf,Blk.live],by simp⟩ (by simp [renOf,hw])
 obtain rfl:i=S.length:=by omega
 rw [scan_end (Nat.le_refl _)] at hf
 rw [← hf,then_ok] at hR2
 rw [← hR2]
 simp
 (repeat' (first|contradiction|exact .ok|apply And.intro|intro _|(refine gc (fun h=>?_) (fun h=>?_)<;>(have h':=h;(try simp at h');first|done|simp[h,h']|simp))))
 refine acallT_plain (ups (s_order S hl hS)) (by simp [schA]) ?_
 simp
 all_goals exact gz
end Go.Proofs.Tryz
