import Derived.Test.YtkkbepgccddjoaaGreatDoorSvd
set_option linter.all false
namespace Go.Proofs.Tryz
open Go.Ab
set_option maxRecDepth 100000
set_option maxHeartbeats 4000000
theorem r3_valid (S:List Tb) (hl:S.length≤1000) (hS:∀ x∈S,x.ok) (hU:∀ x∈S,∀ l∈x.un,l.length≤1000) (ty:Tb→Ex→Int×Int)
  (hty:∀ x∈S,∀ e∈x.ch,Cf Es 100 [.d (.sl (ints (x.cols.map Col.t))),e.a] [] (.tup [.d (.int .i64 (ty x e).1),.d (.int .i64 (ty x e).2)]) []) :
  Cf Es 80 [schA S] [] (.d (.int .i64 (validE nm3 ty S))) []:=by
 refine cf_intro mixs (fn:=Tryz.f80) (by kernel_rfl) rfl (by kernel_rfl) (by decide) (by simp) ?_
 by_cases c1:6<S.length
 ·have i1:(6:Int)<S.length:=by omega
  rw [show validE nm3 ty S=8 from by unfold validE; rw [if_pos c1]]
  simp [schA,i1,c1]
  (repeat' (first|contradiction|exact .ok|apply And.intro|intro _|(refine gc (fun h=>?_) (fun h=>?_)<;>(have h':=h;(try simp at h');first|done|simp[h,h',i1,c1]|simp[i1,c1]))))
 have i1:¬ (6:Int)<S.length:=by omega
 have hR2:thenE (scanE (tabE nm3 ty S) S 0) (thenE (scanE (fun _ x=>scanE (fun _=>refE S x) x.fk 0) S 0) (ordS S).2)=validE nm3 ty S:=by unfold validE; rw [if_neg c1]
 generalize validE nm3 ty S=T at *
 simp [schA,i1,c1]
 (repeat' (first|contradiction|exact .ok|apply And.intro|intro _|(refine gc (fun h=>?_) (fun h=>?_)<;>(have h':=h;(try simp at h');first|done|simp[h,h',i1,c1]|simp[i1,c1]))))
 clear i1 c1
 refine aloopT mixs (by decide) (fun i:Nat=>{ s:=mkS [(1,.ptr 1 0 0),(3,.d (.int .i64 i))],b:=mkB [(1,1,.var [.d (.sl (S.map Tb.c))])] }) (fun i=>i≤S.length∧scanE (tabE nm3 ty S) (S.drop i) i=scanE (tabE nm3 ty S) S 0) (fun i=>S.length - i) 0 (by simp)
  (sub_mk _ [(1,1,_)] ⟨by simp,by simp,by simp [renOf,Blk.live],by simp⟩ (by simp [renOf])) ?_
 rintro i ⟨hi,hf⟩
 by_cases hlt:i<S.length
 ·rw [scan_drop hlt] at hf
  have hw:=wrap_in (n:=(i:Int)+1) (by omega) (by omega)
  obtain ⟨x,hx⟩:∃ c,c=S[i]:=⟨_,rfl⟩
  have hgi:∀ h,S[i]'h=x:=fun _=>hx.symm
  have hxm:x∈S:=by rw [hx]; exact List.getElem_mem hlt
  obtain ⟨k,hk,hki⟩:=fidx_self (p:=fun d:Tb=>d.n==x.n) (b:=0) hlt (by rw [← hx]; simp)
  have hk':fidx (fun d:Tb=>d.n==x.n) S 0=k:=by rw [hk]; simp
  rw [← hx] at hf
  have hE:tabE nm3 ty S i x=if nm3 x.n=false then 3 else if (k:Int)<i then 5 else tableE nm3 ty x:=by unfold tabE; rw [hk']
  have hbad:∀ z:Int,tabE nm3 ty S i x=z→z ≠ 0→T=z:=fun z h h0=>by
   rw [h,if_pos h0] at hf
   rw [← hR2,← hf,then_bad h0]
  have hgood:tabE nm3 ty S i x=0→scanE (tabE nm3 ty S) (S.drop (i+1)) (i+1)=scanE (tabE nm3 ty S) S 0:=fun h=>by
   rw [h,if_neg (by simp)] at hf
   exact hf
  have htb:=r_table3 x (hS x hxm) (hU x hxm) ty (hty x hxm)
  generalize tabE nm3 ty S i x=E at *
  simp [hlt,hgi,Tb.c]
  (repeat' (first|contradiction|exact .ok|apply And.intro|intro _|(refine gc (fun h=>?_) (fun h=>?_)<;>(have h':=h;(try simp at h');first|done|simp[h,h']|simp))))
  refine acallT_plain (r_name x.n) (by simp) ?_
  cases hn:nm3 x.n with
  | false =>
    rw [hn,if_pos rfl] at hE
    rw [hbad 3 hE (by decide)]
    simp [hn]
    (repeat' (first|contradiction|exact .ok|apply And.intro|intro _|(refine gc (fun h=>?_) (fun h=>?_)<;>(have h':=h;(try simp at h');first|done|simp[h,h',hn]|simp[hn]))))
  | true =>
    rw [hn,if_neg (by decide)] at hE
    simp [hn,hlt,hgi,Tb.c]
    (repeat' (first|contradiction|exact .ok|apply And.intro|intro _|(refine gc (fun h=>?_) (fun h=>?_)<;>(have h':=h;(try simp at h');first|done|simp[h,h',hn]|simp[hn]))))
    refine acallT_plain (ups (r3_find S hl x.n)) (by simp [schA]) ?_
    rw [place_at hk']
    by_cases hki2:k<i
    ·rw [if_pos (by omega)] at hE
     rw [hbad 5 hE (by decide)]
     have hki4:¬ k=i:=by omega
     have hki5:¬ (k:Int)=i:=by omega
     simp [hki4,hki5]
     (repeat' (first|contradiction|exact .ok|apply And.intro|intro _|(refine gc (fun h=>?_) (fun h=>?_)<;>(have h':=h;(try simp at h');first|done|simp[h,h',hki4,hki5]|simp[hki4,hki5]))))
    ·rw [if_neg (by omega)] at hE
     obtain rfl:k=i:=by omega
     simp [hlt,hgi,Tb.c]
     (repeat' (first|contradiction|exact .ok|apply And.intro|intro _|(refine gc (fun h=>?_) (fun h=>?_)<;>(have h':=h;(try simp at h');first|done|simp[h,h']|simp))))
     refine acallT_plain htb (by simp [Tb.a,Tb.c]) ?_
     generalize tableE nm3 ty x=e at *
     by_cases he:e=0
     ·simp [he]
      (repeat' (first|contradiction|exact .ok|apply And.intro|intro _|(refine gc (fun h=>?_) (fun h=>?_)<;>(have h':=h;(try simp at h');first|done|simp[h,h',he]|simp[he]))))
      refine ⟨k+1,⟨by omega,hgood (by rw [hE,he])⟩,?_,by simp; omega⟩
      exact sub_mk _ [(1,1,_)] ⟨by simp,by simp,by simp [renOf,Blk.live],by simp⟩ (by simp [renOf,hw])
     ·rw [hbad e hE he]
      simp [he]
      (repeat' (first|contradiction|exact .ok|apply And.intro|intro _|(refine gc (fun h=>?_) (fun h=>?_)<;>(have h':=h;(try simp at h');first|done|simp[h,h',he]|simp[he]))))
 obtain rfl:i=S.length:=by omega
 rw [scan_end (Nat.le_refl _)] at hf
 have hK:=tabE_ok hf.symm
 rw [← hf,then_ok] at hR2
 clear hf hi hlt
 simp
 (repeat' (first|contradiction|exact .ok|apply And.intro|intro _|(refine gc (fun h=>?_) (fun h=>?_)<;>(have h':=h;(try simp at h');first|done|simp[h,h']|simp))))
 refine aloopT mixs (by decide) (fun i:Nat=>{ s:=mkS [(1,.ptr 1 0 0),(7,.d (.int .i64 i))],b:=mkB [(1,1,.var [.d (.sl (S.map Tb.c))])] }) (fun i=>i≤S.length∧scanE (fun _ x=>scanE (fun _=>refE S x) x.fk 0) (S.drop i) i=scanE (fun _ x=>scanE (fun _=>refE S x) x.fk 0) S 0) (fun i=>S.length - i) 0 (by simp)
  (sub_mk _ [(1,1,_)] ⟨by simp,by simp,by simp [renOf,Blk.live],by simp⟩ (by simp [renOf])) ?_
 rintro i ⟨hi,hf⟩
 by_cases hlt:i<S.length
 ·rw [scan_drop hlt] at hf
  have hw:=wrap_in (n:=(i:Int)+1) (by omega) (by omega)
  obtain ⟨x,hx⟩:∃ c,c=S[i]:=⟨_,rfl⟩
  have hgi:∀ h,S[i]'h=x:=fun _=>hx.symm
  have hxm:x∈S:=by rw [hx]; exact List.getElem_mem hlt
  have hxf:=(hS x hxm).fk
  rw [← hx] at hf
  simp [hlt,hgi,Tb.c]
  (repeat' (first|contradiction|exact .ok|apply And.intro|intro _|(refine gc (fun h=>?_) (fun h=>?_)<;>(have h':=h;(try simp at h');first|done|simp[h,h']|simp))))
  refine aloopT mixs (by decide) (fun j:Nat=>{ s:=mkS [(1,.ptr 1 0 0),(7,.d (.int .i64 i)),(8,.d (.int .i64 j))],b:=mkB [(1,1,.var [.d (.sl (S.map Tb.c))])] }) (fun j=>j≤x.fk.length∧scanE (fun _=>refE S x) (x.fk.drop j) j=scanE (fun _=>refE S x) x.fk 0) (fun j=>x.fk.length - j) 0 (by simp)
   (sub_mk _ [(1,1,_)] ⟨by simp,by simp,by simp [renOf,Blk.live],by simp⟩ (by simp [renOf])) ?_
  rintro j ⟨hj,hg⟩
  by_cases hjl:j<x.fk.length
  ·rw [scan_drop hjl] at hg
   have hwj:=wrap_in (n:=(j:Int)+1) (by omega) (by omega)
   obtain ⟨f,hfx⟩:∃ c,c=x.fk[j]:=⟨_,rfl⟩
   have hgf:∀ h,x.fk[j]'h=f:=fun _=>hfx.symm
   have hfm:f∈x.fk:=by rw [hfx]; exact List.getElem_mem hjl
   rw [← hfx] at hg
   have hbad:∀ z:Int,refE S x f=z→z ≠ 0→T=z:=fun z h h0=>by
    rw [h,if_pos h0] at hg
    rw [← hg,if_pos h0] at hf
    rw [← hf,then_bad h0] at hR2
    exact hR2.symm
   have hgood:refE S x f=0→scanE (fun _=>refE S x) (x.fk.drop (j+1)) (j+1)=scanE (fun _=>refE S x) x.fk 0:=fun h=>by
    rw [h,if_neg (by simp)] at hg
    exact hg
   simp [hlt,hgi,hjl,hgf,Fk.c,Tb.c]
   (repeat' (first|contradiction|exact .ok|apply And.intro|intro _|(refine gc (fun h=>?_) (fun h=>?_)<;>(have h':=h;(try simp at h');first|done|simp[h,h']|simp))))
   refine acallT_plain (ups (r3_target S hl hS hlt hx.symm hjl hfx.symm)) (by simp [schA]) ?_
   by_cases hz:0≤tgt S f
   rotate_left
   ·have hR:refE S x f=11:=by
     unfold refE
     split
     ·rw [if_pos (by omega)]
     ·rfl
    rw [hbad 11 hR (by decide),place_no (fidx_neg hz)]
    simp
    all_goals exact gz
   obtain ⟨k,hk⟩:∃ k:Nat,tgt S f=k:=⟨(tgt S f).toNat,by omega⟩
   have hkl:k<S.length:=by
    have:=fidx_ub (p:=fun x:Tb=>x.n==f.t) (l:=S) (i:=0)
    have h2:fidx (fun x:Tb=>x.n==f.t) S 0=k:=hk
    rw [h2] at this
    simp at this
    exact this
   obtain ⟨o,ho⟩:∃ o,o=S[k]:=⟨_,rfl⟩
   have hgk:∀ h,S[k]'h=o:=fun _=>ho.symm
   have hom:o∈S:=by rw [ho]; exact List.getElem_mem hkl
   have hR:refE S x f=if pairE x o f.cols o.pr=true then 0 else 6:=by
    unfold refE
    rw [hk,Int.toNat_natCast,List.getElem?_eq_getElem hkl,← ho]
    simp only
    rw [if_neg (by omega)]
   have ha:=(keysE_ok (hK x hxm)).2 f hfm
   have hb:=(keysE_ok (hK o hom)).1
   have hbl:=(hS o hom).pr
   rw [place_at (show fidx (fun x:Tb=>x.n==f.t) S 0=k from hk)]
   clear hg hf
   rw [hR] at hbad hgood
   clear hR
   by_cases hll:f.cols.length=o.pr.length
   rotate_left
   ·have hP:pairE x o f.cols o.pr=false:=by unfold pairE; simp [hll]
    have hl':¬ (f.cols.length:Int)=o.pr.length:=by omega
    rw [hbad 6 (by rw [hP]; rfl) (by decide)]
    simp [hlt,hgi,hjl,hgf,hkl,hgk,Fk.c,Tb.c,hll,hl']
    (repeat' (first|contradiction|exact .ok|apply And.intro|intro _|(refine gc (fun h=>?_) (fun h=>?_)<;>(have h':=h;(try simp at h');first|done|simp[h,h',hll,hl']|simp[hll,hl']))))
   have hzl:(f.cols.zip o.pr).length=o.pr.length:=by simp [hll]
   have hPz:pairE x o f.cols o.pr=(f.cols.zip o.pr).all fun p=>typT x p.1==typT o p.2:=by unfold pairE; simp [hll]
   rw [hPz] at hbad hgood
   clear hPz
   simp [hlt,hgi,hjl,hgf,hkl,hgk,Fk.c,Tb.c,hll]
   (repeat' (first|contradiction|exact .ok|apply And.intro|intro _|(refine gc (fun h=>?_) (fun h=>?_)<;>(have h':=h;(try simp at h');first|done|simp[h,h',hll]|simp[hll]))))
   refine aloopT mixs (by decide) (fun m:Nat=>{ s:=mkS [(1,.ptr 1 0 0),(7,.d (.int .i64 i)),(8,.d (.int .i64 j)),(9,.d (.int .i64 k)),(11,.d (.sl (ints f.cols))),(12,.d (.sl (ints o.pr))),(13,.d (.int .i64 m))],b:=mkB [(1,1,.var [.d (.sl (S.map Tb.c))])] }) (fun m=>m≤o.pr.length∧((f.cols.zip o.pr).drop m).all (fun p=>typT x p.1==typT o p.2)=(f.cols.zip o.pr).all (fun p=>typT x p.1==typT o p.2)) (fun m=>o.pr.length - m) 0 (by simp)
    (sub_mk _ [(1,1,_)] ⟨by simp,by simp,by simp [renOf,Blk.live],by simp⟩ (by simp [renOf])) ?_
   rintro m ⟨hm,hg⟩
   by_cases hml:m<o.pr.length
   ·have hma:m<f.cols.length:=by omega
    have hwm:=wrap_in (n:=(m:Int)+1) (by omega) (by omega)
    have hga:=ints_get hma
    have hgb:=ints_get hml
    obtain ⟨u,hu⟩:∃ u,u=f.cols[m]:=⟨_,rfl⟩
    obtain ⟨v,hv⟩:∃ u,u=o.pr[m]:=⟨_,rfl⟩
    have hgu:∀ h,f.cols[m]'h=u:=fun _=>hu.symm
    have hgv:∀ h,o.pr[m]'h=v:=fun _=>hv.symm
    rw [← hu] at hga
    rw [← hv] at hgb
    rw [List.drop_eq_getElem_cons (by rw [hzl]; exact hml),List.all_cons,List.getElem_zip,← hu,← hv] at hg
    have hru:=ha u (by rw [hu]; exact List.getElem_mem hma)
    have hrv:=hb v (by rw [hv]; exact List.getElem_mem hml)
    obtain ⟨a,rfl⟩:∃ a:Nat,u=a:=⟨u.toNat,by omega⟩
    obtain ⟨b,rfl⟩:∃ a:Nat,v=a:=⟨v.toNat,by omega⟩
    have hal:a<x.cols.length:=by omega
    have hbl2:b<o.cols.length:=by omega
    obtain ⟨p,hp⟩:∃ p,p=x.cols[a]:=⟨_,rfl⟩
    obtain ⟨q,hq⟩:∃ p,p=o.cols[b]:=⟨_,rfl⟩
    have hgp:∀ h,x.cols[a]'h=p:=fun _=>hp.symm
    have hgq:∀ h,o.cols[b]'h=q:=fun _=>hq.symm
    rw [typT_at hal hp.symm,typT_at hbl2 hq.symm] at hg
    by_cases he:p.t=q.t
    ·rw [show (p.t==q.t)=true from by simpa using he,Bool.true_and] at hg
     simp [hlt,hgi,hkl,hgk,Tb.c,Col.c,hml,hma,hga,hgb,hgu,hgv,hal,hbl2,hgp,hgq,he]
     (repeat' (first|contradiction|exact .ok|apply And.intro|intro _|(refine gc (fun h=>?_) (fun h=>?_)<;>(have h':=h;(try simp at h');first|done|simp[h,h',he]|simp[he]))))
     refine ⟨m+1,⟨by omega,hg⟩,?_,by simp; omega⟩
     exact sub_mk _ [(1,1,_)] ⟨by simp,by simp,by simp [renOf,Blk.live],by simp⟩ (by simp [renOf,hwm])
    ·rw [show (p.t==q.t)=false from by simpa using he,Bool.false_and] at hg
     rw [hbad 6 (by rw [← hg]; rfl) (by decide)]
     simp [hlt,hgi,hkl,hgk,Tb.c,Col.c,hml,hma,hga,hgb,hgu,hgv,hal,hbl2,hgp,hgq,he]
     (repeat' (first|contradiction|exact .ok|apply And.intro|intro _|(refine gc (fun h=>?_) (fun h=>?_)<;>(have h':=h;(try simp at h');first|done|simp[h,h',he]|simp[he]))))
   ·obtain rfl:m=o.pr.length:=by omega
    rw [List.drop_of_length_le (by omega),List.all_nil] at hg
    simp [hll]
    (repeat' (first|contradiction|exact .ok|apply And.intro|intro _|(refine gc (fun h=>?_) (fun h=>?_)<;>(have h':=h;(try simp at h');first|done|simp[h,h']|simp))))
    refine ⟨j+1,⟨by omega,hgood (by rw [← hg]; rfl)⟩,?_,by simp; omega⟩
    exact sub_mk _ [(1,1,_)] ⟨by simp,by simp,by simp [renOf,Blk.live],by simp⟩ (by simp [renOf,hwj])
  ·obtain rfl:j=x.fk.length:=by omega
   rw [scan_end (Nat.le_refl _)] at hg
   rw [← hg,if_neg (by simp)] at hf
   simp [hlt,hgi,Tb.c]
   (repeat' (first|contradiction|exact .ok|apply And.intro|intro _|(refine gc (fun h=>?_) (fun h=>?_)<;>(have h':=h;(try simp at h');first|done|simp[h,h']|simp))))
   refine ⟨i+1,⟨by omega,hf⟩,?_,by simp; omega⟩
   exact sub_mk _ [(1,1,_)] ⟨by simp,by simp,by simp [renOf,Blk.live],by simp⟩ (by simp [renOf,hw])
 obtain rfl:i=S.length:=by omega
 rw [scan_end (Nat.le_refl _)] at hf
 rw [← hf,then_ok] at hR2
 rw [← hR2]
 simp
 (repeat' (first|contradiction|exact .ok|apply And.intro|intro _|(refine gc (fun h=>?_) (fun h=>?_)<;>(have h':=h;(try simp at h');first|done|simp[h,h']|simp))))
 refine acallT_plain (ups (r3_order S hl hS)) (by simp [schA]) ?_
 simp
 all_goals exact gz
end Go.Proofs.Tryz
