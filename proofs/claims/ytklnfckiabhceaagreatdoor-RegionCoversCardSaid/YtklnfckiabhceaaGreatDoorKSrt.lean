import Derived.Test.YtklnfckiabhceaaGreatDoorKSta
import Derived.Test.YtklnfckiabhceaaGreatDoorKSky
import Derived.Test.YtklnfckiabhceaaGreatDoorKCldR
import Derived.Test.YtklnfckiabhceaaGreatDoorKIto
set_option linter.all false
namespace Go.Proofs.Tryz
open Go.Ab
set_option maxRecDepth 100000
set_option maxHeartbeats 4000000
theorem then_assoc (a b c:Int):thenE (thenE a b) c=thenE a (thenE b c):=by
 unfold thenE
 by_cases h:a=0 <;> simp [h]
theorem keysE_split (x:Tb):keysE x=thenE (keyE x x.pr) (thenE (if x.pr.any (nulT x)=true then 4 else 0) (thenE (scanE (fun _=>keyE x) x.un 0) (scanE (fun _ f=>keyE x f.cols) x.fk 0))):=by
 unfold keysE
 rw [scan_append,scan_map]
theorem r_table3 (x:Tb) (hx:x.ok) (hu:∀ l∈x.un,l.length≤1000) (ty:Tb→Ex→Int×Int)
  (hty:∀ e∈x.ch,Cf Es 133 [.d (.sl (ints (x.cols.map Col.t))),e.a] [] (.tup [.d (.int .i64 (ty x e).1),.d (.int .i64 (ty x e).2)]) []) :
  Cf Es 79 [x.a] [] (.d (.int .i64 (tableE nm3 ty x))) []:=by
 refine cf_intro mixs (fn:=Tryz.f79) (by kernel_rfl) rfl (by kernel_rfl) (by decide) (by simp) ?_
 have hcl:=hx.cols
 by_cases c1:8<x.cols.length
 ·have i1:(8:Int)<x.cols.length:=by omega
  rw [tableE_big (.inl c1)]
  simp [Tb.a,Tb.c,i1,c1]
  (repeat' (first|contradiction|exact .ok|apply And.intro|intro _|(refine gc (fun h=>?_) (fun h=>?_)<;>(have h':=h;(try simp at h');first|done|simp[h,h',i1,c1]|simp[i1,c1]))))
 have i1:¬ (8:Int)<x.cols.length:=by omega
 by_cases c2:3<x.un.length
 ·have i2:(3:Int)<x.un.length:=by omega
  rw [tableE_big (.inr (.inl c2))]
  simp [Tb.a,Tb.c,i1,i2,c1,c2]
  (repeat' (first|contradiction|exact .ok|apply And.intro|intro _|(refine gc (fun h=>?_) (fun h=>?_)<;>(have h':=h;(try simp at h');first|done|simp[h,h',i1,i2,c1,c2]|simp[i1,i2,c1,c2]))))
 have i2:¬ (3:Int)<x.un.length:=by omega
 by_cases c3:3<x.fk.length
 ·have i3:(3:Int)<x.fk.length:=by omega
  rw [tableE_big (.inr (.inr (.inl c3)))]
  simp [Tb.a,Tb.c,i1,i2,i3,c1,c2,c3]
  (repeat' (first|contradiction|exact .ok|apply And.intro|intro _|(refine gc (fun h=>?_) (fun h=>?_)<;>(have h':=h;(try simp at h');first|done|simp[h,h',i1,i2,i3,c1,c2,c3]|simp[i1,i2,i3,c1,c2,c3]))))
 have i3:¬ (3:Int)<x.fk.length:=by omega
 by_cases c4:4<x.ch.length
 ·have i4:(4:Int)<x.ch.length:=by omega
  rw [tableE_big (.inr (.inr (.inr c4)))]
  simp [Tb.a,Tb.c,i1,i2,i3,i4,c1,c2,c3,c4]
  (repeat' (first|contradiction|exact .ok|apply And.intro|intro _|(refine gc (fun h=>?_) (fun h=>?_)<;>(have h':=h;(try simp at h');first|done|simp[h,h',i1,i2,i3,i4,c1,c2,c3,c4]|simp[i1,i2,i3,i4,c1,c2,c3,c4]))))
 have i4:¬ (4:Int)<x.ch.length:=by omega
 have hR:∀ z:Int,tableE nm3 ty x=z↔(if x.cols.length=0 then 9 else thenE (scanE (colE nm3 x.cols) x.cols 0) (thenE (keysE x) (scanE (fun _=>chkE (ty x)) x.ch 0)))=z:=fun z=>by
  unfold tableE
  rw [if_neg (by omega)]
 generalize hT:tableE nm3 ty x=T at *
 have hR2:=(hR T).1 rfl
 clear hR hT
 by_cases c0:x.cols.length=0
 ·have i0:(x.cols.length:Int)=0:=by omega
  rw [if_pos c0] at hR2
  rw [← hR2]
  simp [Tb.a,Tb.c,i1,i2,i3,i4,c1,c2,c3,c4,i0,c0]
  (repeat' (first|contradiction|exact .ok|apply And.intro|intro _|(refine gc (fun h=>?_) (fun h=>?_)<;>(have h':=h;(try simp at h');first|done|simp[h,h',i1,i2,i3,i4,c1,c2,c3,c4,i0,c0]|simp[i1,i2,i3,i4,c1,c2,c3,c4,i0,c0]))))
 have i0:¬ (x.cols.length:Int)=0:=by omega
 rw [if_neg c0] at hR2
 simp [Tb.a,Tb.c,i1,i2,i3,i4,c1,c2,c3,c4,i0,c0]
 (repeat' (first|contradiction|exact .ok|apply And.intro|intro _|(refine gc (fun h=>?_) (fun h=>?_)<;>(have h':=h;(try simp at h');first|done|simp[h,h',i1,i2,i3,i4,c1,c2,c3,c4,i0,c0]|simp[i1,i2,i3,i4,c1,c2,c3,c4,i0,c0]))))
 clear i1 i2 i3 i4 c1 c2 c3 c4 i0 c0
 refine aloopT mixs (by decide) (fun i:Nat=>{ s:=mkS [(1,.ptr 1 0 0),(3,.d (.int .i64 i))],b:=mkB [(1,1,.var (x.c.map AV.d))] }) (fun i=>i≤x.cols.length∧scanE (colE nm3 x.cols) (x.cols.drop i) i=scanE (colE nm3 x.cols) x.cols 0) (fun i=>x.cols.length - i) 0 (by simp)
  (sub_mk _ [(1,1,_)] ⟨by simp,by simp,by simp [renOf,Blk.live,Tb.c],by simp⟩ (by simp [renOf])) ?_
 rintro i ⟨hi,hf⟩
 by_cases hlt:i<x.cols.length
 ·rw [scan_drop hlt] at hf
  have hw:=wrap_in (n:=(i:Int)+1) (by omega) (by omega)
  obtain ⟨c,hc⟩:∃ c,c=x.cols[i]:=⟨_,rfl⟩
  have hgi:∀ h,x.cols[i]'h=c:=fun _=>hc.symm
  obtain ⟨k,hk,hki⟩:=fidx_self (p:=fun d:Col=>d.n==c.n) (b:=0) hlt (by rw [← hc]; simp)
  have hk':fidx (fun d:Col=>d.n==c.n) x.cols 0=k:=by rw [hk]; simp
  rw [← hc] at hf
  have hbad:∀ z:Int,colE nm3 x.cols i c=z→z ≠ 0→T=z:=fun z h h0=>by
   rw [h,if_pos h0] at hf
   rw [← hR2,← hf,then_bad h0]
  have hgood:colE nm3 x.cols i c=0→scanE (colE nm3 x.cols) (x.cols.drop (i+1)) (i+1)=scanE (colE nm3 x.cols) x.cols 0:=fun h=>by
   rw [h,if_neg (by simp)] at hf
   exact hf
  have hE:colE nm3 x.cols i c=if nm3 c.n=false then 3 else if (k:Int)<i then 5 else if c.t=1∨c.t=2∨c.t=3 then 0 else 4:=by unfold colE; rw [hk']
  generalize colE nm3 x.cols i c=E at *
  simp [hlt,hgi,Tb.c,Col.c]
  (repeat' (first|contradiction|exact .ok|apply And.intro|intro _|(refine gc (fun h=>?_) (fun h=>?_)<;>(have h':=h;(try simp at h');first|done|simp[h,h']|simp))))
  refine acallT_plain (r_name c.n) (by simp) ?_
  cases hn:nm3 c.n with
  | false =>
    rw [hn,if_pos rfl] at hE
    rw [hbad 3 hE (by decide)]
    simp [hn]
    (repeat' (first|contradiction|exact .ok|apply And.intro|intro _|(refine gc (fun h=>?_) (fun h=>?_)<;>(have h':=h;(try simp at h');first|done|simp[h,h',hn]|simp[hn]))))
  | true =>
    rw [hn,if_neg (by decide)] at hE
    simp [hn,Tb.c]
    (repeat' (first|contradiction|exact .ok|apply And.intro|intro _|(refine gc (fun h=>?_) (fun h=>?_)<;>(have h':=h;(try simp at h');first|done|simp[h,h',hn]|simp[hn]))))
    refine acallT_plain (ups (r3_column x (by omega) c.n)) (by simp [Tb.a,Tb.c]) ?_
    rw [place_at hk']
    by_cases hki2:k<i
    ·rw [if_pos (by omega)] at hE
     rw [hbad 5 hE (by decide)]
     have hki4:¬ k=i:=by omega
     have hki5:¬ (k:Int)=i:=by omega
     simp [hki4,hki5]
     (repeat' (first|contradiction|exact .ok|apply And.intro|intro _|(refine gc (fun h=>?_) (fun h=>?_)<;>(have h':=h;(try simp at h');first|done|simp[h,h',hki4,hki5]|simp[hki4,hki5]))))
    ·rw [if_neg (by omega)] at hE
     obtain rfl:k=i:=by omega
     by_cases t1:c.t<1
     ·rw [if_neg (by omega)] at hE
      rw [hbad 4 hE (by decide)]
      simp [t1]
      (repeat' (first|contradiction|exact .ok|apply And.intro|intro _|(refine gc (fun h=>?_) (fun h=>?_)<;>(have h':=h;(try simp at h');first|done|simp[h,h',t1]|simp[t1]))))
     by_cases t3:3<c.t
     ·rw [if_neg (by omega)] at hE
      rw [hbad 4 hE (by decide)]
      simp [t1,t3]
      (repeat' (first|contradiction|exact .ok|apply And.intro|intro _|(refine gc (fun h=>?_) (fun h=>?_)<;>(have h':=h;(try simp at h');first|done|simp[h,h',t1,t3]|simp[t1,t3]))))
     ·rw [if_pos (by omega)] at hE
      simp [t1,t3]
      (repeat' (first|contradiction|exact .ok|apply And.intro|intro _|(refine gc (fun h=>?_) (fun h=>?_)<;>(have h':=h;(try simp at h');first|done|simp[h,h',t1,t3]|simp[t1,t3]))))
      refine ⟨k+1,⟨by omega,hgood hE⟩,?_,by simp; omega⟩
      exact sub_mk _ [(1,1,_)] ⟨by simp,by simp,by simp [renOf,Blk.live,Tb.c],by simp⟩ (by simp [renOf,hw])
 obtain rfl:i=x.cols.length:=by omega
 rw [scan_end (Nat.le_refl _)] at hf
 rw [← hf,then_ok,keysE_split,then_assoc,then_assoc,then_assoc] at hR2
 clear hf hi hlt
 simp [Tb.c]
 (repeat' (first|contradiction|exact .ok|apply And.intro|intro _|(refine gc (fun h=>?_) (fun h=>?_)<;>(have h':=h;(try simp at h');first|done|simp[h,h']|simp))))
 refine acallT_plain (ups (r_listed x hx x.pr hx.pr)) (by simp [Tb.a,Tb.c]) ?_
 cases hk:listB x.cols.length x.pr with
 | false =>
   have hk':keyE x x.pr=6:=by unfold keyE; rw [hk]; rfl
   rw [hk',then_bad (by decide)] at hR2
   rw [← hR2]
   simp [hk]
   (repeat' (first|contradiction|exact .ok|apply And.intro|intro _|(refine gc (fun h=>?_) (fun h=>?_)<;>(have h':=h;(try simp at h');first|done|simp[h,h',hk]|simp[hk]))))
 | true =>
 have hk':keyE x x.pr=0:=by unfold keyE; rw [hk]; rfl
 rw [hk',then_ok] at hR2
 have hin:=listB_mem hk
 have hpl:=hx.pr
 simp [hk]
 (repeat' (first|contradiction|exact .ok|apply And.intro|intro _|(refine gc (fun h=>?_) (fun h=>?_)<;>(have h':=h;(try simp at h');first|done|simp[h,h',hk]|simp[hk]))))
 refine aloopT mixs (by decide) (fun i:Nat=>{ s:=mkS [(1,.ptr 1 0 0),(7,.d (.int .i64 i))],b:=mkB [(1,1,.var (x.c.map AV.d))] }) (fun i=>i≤x.pr.length∧(x.pr.take i).any (nulT x)=false) (fun i=>x.pr.length - i) 0 (by simp)
  (sub_mk _ [(1,1,_)] ⟨by simp,by simp,by simp [renOf,Blk.live,Tb.c],by simp⟩ (by simp [renOf])) ?_
 rintro i ⟨hi,hf⟩
 by_cases hlt:i<x.pr.length
 ·have hw:=wrap_in (n:=(i:Int)+1) (by omega) (by omega)
  have hat:=any_take (p:=nulT x) hlt
  have hag:=any_of_get (p:=nulT x) hlt
  have hg:=ints_get hlt
  obtain ⟨c,hc⟩:∃ c,c=x.pr[i]:=⟨_,rfl⟩
  have hgi:∀ h,x.pr[i]'h=c:=fun _=>hc.symm
  obtain ⟨h0,h1⟩:=hin c (by rw [hc]; exact List.getElem_mem hlt)
  rw [← hc] at hg hat hag
  obtain ⟨k,rfl⟩:∃ k:Nat,c=k:=⟨c.toNat,by omega⟩
  have hkl:k<x.cols.length:=by omega
  obtain ⟨u,hu2⟩:∃ u,u=x.cols[k]:=⟨_,rfl⟩
  have hgk:∀ h,x.cols[k]'h=u:=fun _=>hu2.symm
  have hn:nulT x k=u.b:=by unfold nulT; rw [Int.toNat_natCast,List.getElem?_eq_getElem hkl,hgk]; rfl
  rw [hn] at hat hag
  cases hub:u.b with
  | true =>
    rw [hag hub,if_pos rfl,then_bad (by decide)] at hR2
    rw [← hR2]
    simp [hlt,hg,hgi,Tb.c,hkl,hgk,Col.c,hub]
    (repeat' (first|contradiction|exact .ok|apply And.intro|intro _|(refine gc (fun h=>?_) (fun h=>?_)<;>(have h':=h;(try simp at h');first|done|simp[h,h',hub]|simp[hub]))))
  | false =>
    simp [hlt,hg,hgi,Tb.c,hkl,hgk,Col.c,hub]
    (repeat' (first|contradiction|exact .ok|apply And.intro|intro _|(refine gc (fun h=>?_) (fun h=>?_)<;>(have h':=h;(try simp at h');first|done|simp[h,h',hub]|simp[hub]))))
    refine ⟨i+1,⟨by omega,by rw [hat,hf,hub]; rfl⟩,?_,by simp; omega⟩
    exact sub_mk _ [(1,1,_)] ⟨by simp,by simp,by simp [renOf,Blk.live,Tb.c],by simp⟩ (by simp [renOf,hw])
 obtain rfl:i=x.pr.length:=by omega
 rw [List.take_length] at hf
 rw [hf,if_neg (by decide),then_ok] at hR2
 clear hf hi hlt
 simp [Tb.c]
 (repeat' (first|contradiction|exact .ok|apply And.intro|intro _|(refine gc (fun h=>?_) (fun h=>?_)<;>(have h':=h;(try simp at h');first|done|simp[h,h']|simp))))
 have hul:=hx.un
 refine aloopT mixs (by decide) (fun i:Nat=>{ s:=mkS [(1,.ptr 1 0 0),(8,.d (.int .i64 i))],b:=mkB [(1,1,.var (x.c.map AV.d))] }) (fun i=>i≤x.un.length∧scanE (fun _=>keyE x) (x.un.drop i) i=scanE (fun _=>keyE x) x.un 0) (fun i=>x.un.length - i) 0 (by simp)
  (sub_mk _ [(1,1,_)] ⟨by simp,by simp,by simp [renOf,Blk.live,Tb.c],by simp⟩ (by simp [renOf])) ?_
 rintro i ⟨hi,hf⟩
 by_cases hlt:i<x.un.length
 ·rw [scan_drop hlt] at hf
  have hw:=wrap_in (n:=(i:Int)+1) (by omega) (by omega)
  obtain ⟨l,hl⟩:∃ l,l=x.un[i]:=⟨_,rfl⟩
  have hgi:∀ h,x.un[i]'h=l:=fun _=>hl.symm
  rw [← hl] at hf
  have hkl:keyE x l=if listB x.cols.length l=true then 0 else 6:=rfl
  simp [hlt,hgi,intsD,Tb.c]
  (repeat' (first|contradiction|exact .ok|apply And.intro|intro _|(refine gc (fun h=>?_) (fun h=>?_)<;>(have h':=h;(try simp at h');first|done|simp[h,h']|simp))))
  refine acallT_plain (ups (r_listed x hx l (hu l (by rw [hl]; exact List.getElem_mem hlt)))) (by simp [Tb.a,Tb.c]) ?_
  cases hb:listB x.cols.length l with
  | false =>
    rw [hb,if_neg (by decide)] at hkl
    rw [hkl,if_pos (by decide)] at hf
    rw [← hf,then_bad (by decide)] at hR2
    rw [← hR2]
    simp [hb]
    (repeat' (first|contradiction|exact .ok|apply And.intro|intro _|(refine gc (fun h=>?_) (fun h=>?_)<;>(have h':=h;(try simp at h');first|done|simp[h,h',hb]|simp[hb]))))
  | true =>
    rw [hb,if_pos rfl] at hkl
    rw [hkl,if_neg (by decide)] at hf
    simp [hb]
    (repeat' (first|contradiction|exact .ok|apply And.intro|intro _|(refine gc (fun h=>?_) (fun h=>?_)<;>(have h':=h;(try simp at h');first|done|simp[h,h',hb]|simp[hb]))))
    refine ⟨i+1,⟨by omega,hf⟩,?_,by simp; omega⟩
    exact sub_mk _ [(1,1,_)] ⟨by simp,by simp,by simp [renOf,Blk.live,Tb.c],by simp⟩ (by simp [renOf,hw])
 obtain rfl:i=x.un.length:=by omega
 rw [scan_end (Nat.le_refl _)] at hf
 rw [← hf,then_ok] at hR2
 clear hf hi hlt
 simp [Tb.c]
 (repeat' (first|contradiction|exact .ok|apply And.intro|intro _|(refine gc (fun h=>?_) (fun h=>?_)<;>(have h':=h;(try simp at h');first|done|simp[h,h']|simp))))
 have hfl:=hx.fk
 refine aloopT mixs (by decide) (fun i:Nat=>{ s:=mkS [(1,.ptr 1 0 0),(9,.d (.int .i64 i))],b:=mkB [(1,1,.var (x.c.map AV.d))] }) (fun i=>i≤x.fk.length∧scanE (fun _ f=>keyE x f.cols) (x.fk.drop i) i=scanE (fun _ f=>keyE x f.cols) x.fk 0) (fun i=>x.fk.length - i) 0 (by simp)
  (sub_mk _ [(1,1,_)] ⟨by simp,by simp,by simp [renOf,Blk.live,Tb.c],by simp⟩ (by simp [renOf])) ?_
 rintro i ⟨hi,hf⟩
 by_cases hlt:i<x.fk.length
 ·rw [scan_drop hlt] at hf
  have hw:=wrap_in (n:=(i:Int)+1) (by omega) (by omega)
  obtain ⟨l,hl⟩:∃ l,l=x.fk[i]:=⟨_,rfl⟩
  have hgi:∀ h,x.fk[i]'h=l:=fun _=>hl.symm
  rw [← hl] at hf
  have hkl:keyE x l.cols=if listB x.cols.length l.cols=true then 0 else 6:=rfl
  simp [hlt,hgi,Fk.c,Tb.c]
  (repeat' (first|contradiction|exact .ok|apply And.intro|intro _|(refine gc (fun h=>?_) (fun h=>?_)<;>(have h':=h;(try simp at h');first|done|simp[h,h']|simp))))
  refine acallT_plain (ups (r_listed x hx l.cols (hx.fkc l (by rw [hl]; exact List.getElem_mem hlt)))) (by simp [Tb.a,Tb.c]) ?_
  cases hb:listB x.cols.length l.cols with
  | false =>
    rw [hb,if_neg (by decide)] at hkl
    rw [hkl,if_pos (by decide)] at hf
    rw [← hf,then_bad (by decide)] at hR2
    rw [← hR2]
    simp [hb]
    (repeat' (first|contradiction|exact .ok|apply And.intro|intro _|(refine gc (fun h=>?_) (fun h=>?_)<;>(have h':=h;(try simp at h');first|done|simp[h,h',hb]|simp[hb]))))
  | true =>
    rw [hb,if_pos rfl] at hkl
    rw [hkl,if_neg (by decide)] at hf
    simp [hb]
    (repeat' (first|contradiction|exact .ok|apply And.intro|intro _|(refine gc (fun h=>?_) (fun h=>?_)<;>(have h':=h;(try simp at h');first|done|simp[h,h',hb]|simp[hb]))))
    refine ⟨i+1,⟨by omega,hf⟩,?_,by simp; omega⟩
    exact sub_mk _ [(1,1,_)] ⟨by simp,by simp,by simp [renOf,Blk.live,Tb.c],by simp⟩ (by simp [renOf,hw])
 obtain rfl:i=x.fk.length:=by omega
 rw [scan_end (Nat.le_refl _)] at hf
 rw [← hf,then_ok] at hR2
 clear hf hi hlt
 simp [Tb.c]
 (repeat' (first|contradiction|exact .ok|apply And.intro|intro _|(refine gc (fun h=>?_) (fun h=>?_)<;>(have h':=h;(try simp at h');first|done|simp[h,h']|simp))))
 have hhl:=hx.ch
 refine aloopT mixs (by decide) (fun i:Nat=>{ s:=mkS [(1,.ptr 1 0 0),(10,.d (.int .i64 i))],b:=mkB [(1,1,.var (x.c.map AV.d))] }) (fun i=>i≤x.ch.length∧scanE (fun _=>chkE (ty x)) (x.ch.drop i) i=scanE (fun _=>chkE (ty x)) x.ch 0) (fun i=>x.ch.length - i) 0 (by simp)
  (sub_mk _ [(1,1,_)] ⟨by simp,by simp,by simp [renOf,Blk.live,Tb.c],by simp⟩ (by simp [renOf])) ?_
 rintro i ⟨hi,hf⟩
 by_cases hlt:i<x.ch.length
 ·rw [scan_drop hlt] at hf
  have hw:=wrap_in (n:=(i:Int)+1) (by omega) (by omega)
  obtain ⟨e,he⟩:∃ e,e=x.ch[i]:=⟨_,rfl⟩
  have hgi:∀ h,x.ch[i]'h=e:=fun _=>he.symm
  have hem:e∈x.ch:=by rw [he]; exact List.getElem_mem hlt
  rw [← he] at hf
  have hte:=hty e hem
  have hC:chkE (ty x) e=(if (ty x e).2 ≠ 0 then (ty x e).2 else if (ty x e).1 ≠ 2 then 4 else 0):=rfl
  have hbad:chkE (ty x) e ≠ 0→T=chkE (ty x) e:=fun h0=>by
   rw [if_pos h0] at hf
   rw [← hR2,← hf]
  have hgood:chkE (ty x) e=0→scanE (fun _=>chkE (ty x)) (x.ch.drop (i+1)) (i+1)=scanE (fun _=>chkE (ty x)) x.ch 0:=fun h=>by
   rw [h,if_neg (by simp)] at hf
   exact hf
  generalize chkE (ty x) e=F at hC hbad hgood
  clear hf
  rcases e with ⟨o,c,n,t,g,ks⟩
  simp [hlt,hgi,Ex.c,Tb.c]
  (repeat' (first|contradiction|exact .ok|apply And.intro|intro _|(refine gc (fun h=>?_) (fun h=>?_)<;>(have h':=h;(try simp at h');first|done|simp[h,h']|simp))))
  refine acallT_plain (ups (r_types3 x hx)) (by simp [Tb.a,Tb.c]) ?_
  simp [hlt,hgi,Ex.c,Tb.c]
  (repeat' (first|contradiction|exact .ok|apply And.intro|intro _|(refine gc (fun h=>?_) (fun h=>?_)<;>(have h':=h;(try simp at h');first|done|simp[h,h']|simp))))
  refine acallT_plain hte (by simp [Ex.a,Ex.c]) ?_
  generalize hE:ty x (.mk o c n t g ks)=E at *
  by_cases h2:E.2=0
  rotate_left
  ·rw [if_pos h2] at hC
   rw [hbad (by rw [hC]; exact h2),hC]
   simp [h2]
   (repeat' (first|contradiction|exact .ok|apply And.intro|intro _|(refine gc (fun h=>?_) (fun h=>?_)<;>(have h':=h;(try simp at h');first|done|simp[h,h',h2]|simp[h2]))))
  rw [if_neg (by simpa using h2)] at hC
  by_cases h1:E.1=2
  ·rw [if_neg (by simpa using h1)] at hC
   simp [h1,h2]
   (repeat' (first|contradiction|exact .ok|apply And.intro|intro _|(refine gc (fun h=>?_) (fun h=>?_)<;>(have h':=h;(try simp at h');first|done|simp[h,h',h1,h2]|simp[h1,h2]))))
   refine ⟨i+1,⟨by omega,hgood hC⟩,?_,by simp; omega⟩
   exact sub_mk _ [(1,1,_)] ⟨by simp,by simp,by simp [renOf,Blk.live,Tb.c],by simp⟩ (by simp [renOf,hw])
  ·rw [if_pos h1] at hC
   rw [hbad (by rw [hC]; decide),hC]
   simp [h1,h2]
   (repeat' (first|contradiction|exact .ok|apply And.intro|intro _|(refine gc (fun h=>?_) (fun h=>?_)<;>(have h':=h;(try simp at h');first|done|simp[h,h',h1,h2]|simp[h1,h2]))))
 obtain rfl:i=x.ch.length:=by omega
 rw [scan_end (Nat.le_refl _)] at hf
 rw [← hR2,← hf]
 simp [Tb.c]
 all_goals exact gz
end Go.Proofs.Tryz
namespace Go.Proofs.Tryz
open Go.Ab
set_option maxRecDepth 100000
set_option maxHeartbeats 4000000
@[simp] theorem ends_b2 {E:Env} {fn:Func} {y:AV} {st:St} {b1 b2:Blk}:Ab.Ends E fn 2 y [b1,b2] st=aendH 2 (resV E fn st) st.b y [b1,b2]:=ends_hand (B':=[b1,b2])
theorem kept_b2 {b0 b1:Blk} {bl:Nat→Blk}:KeptOk 2 bl (idK [b0,b1]) =
  ((((bl 1000000).live=true∨bl 1000000=.dead)∧(cvB (renOf (idK [b0,b1])) bl true (bl 1000000)).1=b0) ∧
  (((bl 1000001).live=true∨bl 1000001=.dead)∧(cvB (renOf (idK [b0,b1])) bl true (bl 1000001)).1=b1)):=by
 have:=@kept_idK [b0,b1] bl
 simp only [List.length_cons,List.length_nil,Nat.zero_add,Nat.reduceAdd] at this
 rw [this]
 apply propext
 constructor
 ·intro h; exact ⟨h 0 b0 rfl,h 1 b1 rfl⟩
 ·rintro ⟨h0,h1⟩ i c hc
  match i,hc with
  | 0,hc=>cases hc; exact h0
  | 1,hc=>cases hc; exact h1
theorem forall2 {α:Type} {P:α→Prop} {a b:α} (ha:P a) (hb:P b):∀ x∈[a,b],P x:=fun x hx=>by
 rcases List.mem_cons.1 hx with rfl | hx
 ·exact ha
 ·rw [List.mem_singleton] at hx; subst hx; exact hb
theorem base2 {l:Kept} {b0 b1:Blk}:∀ j,j<2→∃ p∈((1000000,1000000,b0)::(1000001,1000001,b1)::l),p.1=firstName+j∧p.2.1=firstName+j:=fun j hj=>by
 rcases (by omega:j=0∨j=1) with rfl | rfl
 ·exact ⟨_,List.mem_cons_self,rfl,rfl⟩
 ·exact ⟨_,List.mem_cons_of_mem _ List.mem_cons_self,rfl,rfl⟩
theorem typT_at {x:Tb} {k:Nat} {u:Col} (hk:k<x.cols.length) (hu:x.cols[k]=u):typT x k=u.t:=by
 unfold typT; rw [Int.toNat_natCast,List.getElem?_eq_getElem hk,hu]; rfl
theorem s_ref1 (x o:Tb) (a b:Int) (ha:0≤a∧a<x.cols.length) (hb:0≤b∧b<o.cols.length) :
  Cf En 121 [.d (.int .i64 a),.d (.int .i64 b),.ptr 1000000 0 0,.ptr 1000001 0 0] [.var (x.c.map AV.d),.var (o.c.map AV.d)] (.d (.bool (typT x a==typT o b))) [.var (x.c.map AV.d),.var (o.c.map AV.d)]:=by
 refine cf_intro mix (fn:=Tryz.f121) (by kernel_rfl) rfl (by kernel_rfl) (by decide) (by simp) ?_
 obtain ⟨k,rfl⟩:∃ k:Nat,a=k:=⟨a.toNat,by omega⟩
 obtain ⟨m,rfl⟩:∃ k:Nat,b=k:=⟨b.toNat,by omega⟩
 have hk:k<x.cols.length:=by omega
 have hm:m<o.cols.length:=by omega
 obtain ⟨u,hu⟩:∃ u,u=x.cols[k]:=⟨_,rfl⟩
 obtain ⟨v,hv⟩:∃ u,u=o.cols[m]:=⟨_,rfl⟩
 have hgi:∀ h,x.cols[k]'h=u:=fun _=>hu.symm
 have hgm:∀ h,o.cols[m]'h=v:=fun _=>hv.symm
 rw [typT_at hk hu.symm,typT_at hm hv.symm]
 simp [Tb.c,hk,hm,hgi,hgm,Col.c]
 (repeat' (first|contradiction|exact .ok|apply And.intro|intro _|(refine gc (fun h=>?_) (fun h=>?_)<;>(have h':=h;(try simp at h');first|done|simp[h,h']|simp))))
 all_goals first | (rw [kept_b2]; refine ⟨?_,?_⟩ <;> simp [Tb.c]) | (simp [Tb.c]; done) | skip
theorem s_equalF (x o:Tb) (a b:List Int) (hal:a.length≤1000) (ha:∀ k∈a,0≤k∧k<x.cols.length) (hb:∀ k∈b,0≤k∧k<o.cols.length) (hbl:b.length≤1000) :
  Cf En 120 [.d (.sl (ints a)),.d (.sl (ints b)),.clo 121 [.ptr 1000000 0 0,.ptr 1000001 0 0]] [.var (x.c.map AV.d),.var (o.c.map AV.d)] (.d (.bool (pairE x o a b))) [.var (x.c.map AV.d),.var (o.c.map AV.d)]:=by
 refine cf_intro mix (fn:=Tryz.f120) (by kernel_rfl) rfl (by kernel_rfl) (by decide) (by simp) ?_
 by_cases hl:a.length=b.length
 rotate_left
 ·have hP:pairE x o a b=false:=by unfold pairE; simp [hl]
  have hl':¬ (a.length:Int)=b.length:=by omega
  rw [hP]
  simp [hl,hl']
  (repeat' (first|contradiction|exact .ok|apply And.intro|intro _|(refine gc (fun h=>?_) (fun h=>?_)<;>(have h':=h;(try simp at h');first|done|simp[h,h',hl,hl']|simp[hl,hl']))))
  all_goals first | (rw [kept_b2]; refine ⟨?_,?_⟩ <;> simp [Tb.c]) | (simp [Tb.c]; done) | skip
 simp [hl]
 (repeat' (first|contradiction|exact .ok|apply And.intro|intro _|(refine gc (fun h=>?_) (fun h=>?_)<;>(have h':=h;(try simp at h');first|done|simp[h,h']|simp))))
 have hzl:(a.zip b).length=b.length:=by simp [hl]
 have hPz:pairE x o a b=(a.zip b).all fun p=>typT x p.1==typT o p.2:=by unfold pairE; simp [hl]
 rw [hPz]
 clear hPz
 refine aloopT mix (by decide) (fun i:Nat=>{ s:=mkS [(1,.d (.sl (ints b))),(2,.clo 121 [.ptr 1000000 0 0,.ptr 1000001 0 0]),(15,.d (.sl (ints a))),(16,.d (.int .i64 b.length)),(17,.d (.int .i64 i))],b:=mkB [(1000000,1000000,.var (x.c.map AV.d)),(1000001,1000001,.var (o.c.map AV.d))] }) (fun i=>i≤b.length∧((a.zip b).drop i).all (fun p=>typT x p.1==typT o p.2)=(a.zip b).all (fun p=>typT x p.1==typT o p.2)) (fun i=>b.length - i) 0 (by simp)
  (sub_mk _ [(1000000,1000000,_),(1000001,1000001,_)] ⟨by simp,by simp,by refine forall2 ?_ ?_ <;> simp [renOf,Blk.live,Tb.c],base2⟩ (by simp [renOf,hl])) ?_
 rintro i ⟨hi,hf⟩
 by_cases hlt:i<b.length
 ·have hla:i<a.length:=by omega
  have hw:=wrap_in (n:=(i:Int)+1) (by omega) (by omega)
  have hga:=ints_get hla
  have hgb:=ints_get hlt
  obtain ⟨u,hu⟩:∃ u,u=a[i]:=⟨_,rfl⟩
  obtain ⟨v,hv⟩:∃ u,u=b[i]:=⟨_,rfl⟩
  have hgi:∀ h,a[i]'h=u:=fun _=>hu.symm
  have hgm:∀ h,b[i]'h=v:=fun _=>hv.symm
  rw [← hu] at hga
  rw [← hv] at hgb
  rw [List.drop_eq_getElem_cons (by rw [hzl]; exact hlt),List.all_cons,List.getElem_zip,← hu,← hv] at hf
  simp [hlt,hla,hga,hgb,hgi,hgm]
  (repeat' (first|contradiction|exact .ok|apply And.intro|intro _|(refine gc (fun h=>?_) (fun h=>?_)<;>(have h':=h;(try simp at h');first|done|simp[h,h']|simp))))
  refine acallT_hand [1000000,1000001] (s_ref1 x o u v (ha u (by rw [hu]; exact List.getElem_mem hla)) (hb v (by rw [hv]; exact List.getElem_mem hlt))) (by simp) (by simp) (by simp) (by simp [Tb.c]) (by simp [fwdR_cons]) ?_
  cases he:typT x u==typT o v with
  | true =>
    rw [he,Bool.true_and] at hf
    simp [he]
    (repeat' (first|contradiction|exact .ok|apply And.intro|intro _|(refine gc (fun h=>?_) (fun h=>?_)<;>(have h':=h;(try simp at h');first|done|simp[h,h',he]|simp[he]))))
    refine ⟨i+1,⟨by omega,hf⟩,?_,by simp; omega⟩
    exact sub_mk _ [(1000000,1000000,_),(1000001,1000001,_)] ⟨by simp,by simp,by refine forall2 ?_ ?_ <;> simp [renOf,Blk.live,Tb.c],base2⟩ (by simp [renOf,hw])
  | false =>
    rw [he,Bool.false_and] at hf
    rw [← hf]
    simp [he,Tb.c]
    (repeat' (first|contradiction|exact .ok|apply And.intro|intro _|(refine gc (fun h=>?_) (fun h=>?_)<;>(have h':=h;(try simp at h');first|done|simp[h,h',he]|simp[he]))))
    all_goals first | (rw [kept_b2]; refine ⟨?_,?_⟩ <;> simp [Tb.c]) | (simp [Tb.c]; done) | skip
 obtain rfl:i=b.length:=by omega
 rw [List.drop_of_length_le (by omega),List.all_nil] at hf
 rw [← hf]
 simp [Tb.c]
 (repeat' (first|contradiction|exact .ok|apply And.intro|intro _|(refine gc (fun h=>?_) (fun h=>?_)<;>(have h':=h;(try simp at h');first|done|simp[h,h']|simp))))
 all_goals first | (rw [kept_b2]; refine ⟨?_,?_⟩ <;> simp [Tb.c]) | (simp [Tb.c]; done) | skip
theorem s_reference (S:List Tb) (hl:S.length≤1000) (hS:∀ x∈S,x.ok) (hK:∀ x∈S,keysE x=0) (x:Tb) (hx:x∈S) (f:Fk) (hf:f∈x.fk) :
  Cf En 69 [schA S,x.a,f.a] [] (.d (.int .i64 (refE S x f))) []:=by
 refine cf_intro mix (fn:=Tryz.f69) (by kernel_rfl) rfl (by kernel_rfl) (by decide) (by simp) ?_
 simp [schA,Tb.a,Tb.c,Fk.a,Fk.c]
 (repeat' (first|contradiction|exact .ok|apply And.intro|intro _|(refine gc (fun h=>?_) (fun h=>?_)<;>(have h':=h;(try simp at h');first|done|simp[h,h']|simp))))
 refine acallT_plain (s_find S hl f.t) (by simp [schA]) ?_
 by_cases hz:0≤tgt S f
 ·obtain ⟨k,hk⟩:∃ k:Nat,tgt S f=k:=⟨(tgt S f).toNat,by omega⟩
  have hkl:k<S.length:=by
   have:=fidx_ub (p:=fun x:Tb=>x.n==f.t) (l:=S) (i:=0)
   have h2:fidx (fun x:Tb=>x.n==f.t) S 0=k:=hk
   rw [h2] at this
   simp at this
   exact this
  obtain ⟨o,ho⟩:∃ o,o=S[k]:=⟨_,rfl⟩
  have hgi:∀ h,S[k]'h=o:=fun _=>ho.symm
  have hom:o∈S:=by rw [ho]; exact List.getElem_mem hkl
  have hR:refE S x f=if pairE x o f.cols o.pr=true then 0 else 6:=by
   unfold refE
   rw [hk,Int.toNat_natCast,List.getElem?_eq_getElem hkl,← ho]
   simp only
   rw [if_neg (by omega)]
  rw [hR,place_at (show fidx (fun x:Tb=>x.n==f.t) S 0=k from hk)]
  simp [hkl,hgi,Tb.c]
  (repeat' (first|contradiction|exact .ok|apply And.intro|intro _|(refine gc (fun h=>?_) (fun h=>?_)<;>(have h':=h;(try simp at h');first|done|simp[h,h']|simp))))
  refine acallT_hand [4,9] (s_equalF x o f.cols o.pr ((hS x hx).fkc f hf) ((keysE_ok (hK x hx)).2 f hf) ((keysE_ok (hK o hom)).1) (hS o hom).pr) (by simp) (by simp) (by simp) (by simp [Tb.c]) (by simp [fwdR_cons]) ?_
  cases hp:pairE x o f.cols o.pr <;> simp [hp]
  all_goals (repeat' (first | contradiction | exact .of (by kernel_rfl) | refine And.intro ?_ ?_ | intro _ | (refine agrd_cases (fun h=>?_) (fun h=>?_) <;> (have h':=h; (try simp at h'); first | done | simp [h,h',hp] | simp [hp]))))
 ·have hR:refE S x f=11:=by
   unfold refE
   split
   ·rw [if_pos (by omega)]
   ·rfl
  rw [hR,place_no (fidx_neg hz)]
  simp
  all_goals exact gz
end Go.Proofs.Tryz
namespace Go.Proofs.Tryz
open Go.Ab
set_option maxRecDepth 100000
set_option maxHeartbeats 4000000
theorem f_free1 (f:Fk) (hf:f.cols.length≤1000) (c:Int):Cf En 129 [f.a,.ptr 1000000 0 0] [.var [.d (.int .i64 c)]] (.d (.bool (f.cols.contains c))) [.var [.d (.int .i64 c)]]:=by
 refine cf_intro mix (fn:=Tryz.f129) (by kernel_rfl) rfl (by kernel_rfl) (by decide) (by simp) ?_
 simp [Fk.a,Fk.c]
 (repeat' (first|contradiction|exact .ok|apply And.intro|intro _|(refine gc (fun h=>?_) (fun h=>?_)<;>(have h':=h;(try simp at h');first|done|simp[h,h']|simp))))
 refine acallT_plain (i_contains f.cols hf c) (by simp) ?_
 simp
 all_goals exact gz
theorem f_freeI (l:List Fk) (hl:l.length≤1000) (hf:∀ f∈l,f.cols.length≤1000) (c:Int):Cf En 171 [.d (.sl (l.map Fk.c)),.clo 129 [.ptr 1000000 0 0]] [.var [.d (.int .i64 c)]] (.d (.int .i64 (fidx (fun f:Fk=>f.cols.contains c) l 0))) [.var [.d (.int .i64 c)]]:=by
 refine cf_intro mix (fn:=Tryz.f171) (by kernel_rfl) rfl (by kernel_rfl) (by decide) (by simp) ?_
 generalize hF:fidx (fun f:Fk=>f.cols.contains c) l 0=F
 simp
 (repeat' (first|contradiction|exact .ok|apply And.intro|intro _|(refine gc (fun h=>?_) (fun h=>?_)<;>(have h':=h;(try simp at h');first|done|simp[h,h']|simp))))
 refine aloopT mix (by decide) (fun i:Nat=>{ s:=mkS [(0,.d (.sl (l.map Fk.c))),(1,.clo 129 [.ptr 1000000 0 0]),(7,.d (.int .i64 l.length)),(8,.d (.int .i64 i))],b:=mkB [(1000000,1000000,.var [.d (.int .i64 c)])] }) (fun i=>i≤l.length∧fidx (fun f:Fk=>f.cols.contains c) (l.drop i) i=F) (fun i=>l.length - i) 0 ⟨by simp,hF⟩ (sub_mk _ [(1000000,1000000,_)] ⟨by simp,by simp,by simp [renOf,Blk.live],base1⟩ (by simp [renOf])) ?_
 rintro i ⟨hi,hg⟩
 by_cases hlt:i<l.length
 ·rw [fidx_drop hlt] at hg
  obtain ⟨u,hu⟩:∃ u,u=l[i]:=⟨_,rfl⟩
  have hgi:∀ h,l[i]'h=u:=fun _=>hu.symm
  have hru:=hf u (by rw [hu]; exact List.getElem_mem hlt)
  rw [← hu] at hg
  have hw:=wrap_in (n:=(i:Int)+1) (by omega) (by omega)
  simp [hlt,hgi,Fk.c]
  (repeat' (first|contradiction|exact .ok|apply And.intro|intro _|(refine gc (fun h=>?_) (fun h=>?_)<;>(have h':=h;(try simp at h');first|done|simp[h,h']|simp))))
  refine acallT_hand [1000000] (f_free1 u hru c) (by simp) (by simp) (by simp) (by simp) (by simp [Fk.a,Fk.c]) ?_
  cases he:u.cols.contains c
  ·rw [he] at hg
   simp [he]
   (repeat' (first|contradiction|exact .ok|apply And.intro|intro _|(refine gc (fun h=>?_) (fun h=>?_)<;>(have h':=h;(try simp at h');first|done|simp[h,h',he]|simp[he]))))
   refine ⟨i+1,⟨by omega,by simpa using hg⟩,?_,by simp; omega⟩
   exact sub_mk _ [(1000000,1000000,_)] ⟨by simp,by simp,by simp [renOf,Blk.live],base1⟩ (by simp [renOf,hw])
  ·rw [he] at hg
   simp only [if_true] at hg
   simp [he,← hg]
   (repeat' (first|contradiction|exact .ok|apply And.intro|intro _|(refine gc (fun h=>?_) (fun h=>?_)<;>(have h':=h;(try simp at h');first|done|simp[h,h',he]|simp[he]))))
 obtain rfl:i=l.length:=by omega
 rw [List.drop_length,fidx] at hg
 simp [← hg]
 all_goals exact gz
theorem f_freeC (l:List Fk) (hl:l.length≤1000) (hf:∀ f∈l,f.cols.length≤1000) (c:Int):Cf En 128 [.d (.sl (l.map Fk.c)),.clo 129 [.ptr 1000000 0 0]] [.var [.d (.int .i64 c)]] (.d (.bool (l.any fun f=>f.cols.contains c))) [.var [.d (.int .i64 c)]]:=by
 refine cf_intro mix (fn:=Tryz.f128) (by kernel_rfl) rfl (by kernel_rfl) (by decide) (by simp) ?_
 have h:=fidx_any (p:=fun f:Fk=>f.cols.contains c) (l:=l) (i:=0)
 generalize hA:(l.any fun f=>f.cols.contains c)=A at *
 generalize hF:fidx (fun f:Fk=>f.cols.contains c) l 0=F at *
 have hc:=f_freeI l hl hf c
 rw [hF] at hc
 simp
 (repeat' (first|contradiction|exact .ok|apply And.intro|intro _|(refine gc (fun h=>?_) (fun h=>?_)<;>(have h':=h;(try simp at h');first|done|simp[h,h']|simp))))
 refine acallT_hand [1000000] hc (by simp) (by simp) (by simp) (by simp) (by simp) ?_
 simp [h]
 all_goals exact gz
theorem f_free (x:Tb) (hx:x.ok) (c:Int):Cf En 77 [x.a,.d (.int .i64 c)] [] (.d (.bool (!keyT x c))) []:=by
 refine cf_intro mix (fn:=Tryz.f77) (by kernel_rfl) rfl (by kernel_rfl) (by decide) (by simp) ?_
 have hk:keyT x c=(x.pr.contains c||x.fk.any fun f=>f.cols.contains c):=rfl
 rw [hk]
 have hc:=f_freeC x.fk hx.fk hx.fkc c
 generalize (x.fk.any fun f=>f.cols.contains c)=A at *
 have hp:=i_contains x.pr hx.pr c
 generalize x.pr.contains c=B at *
 simp [Tb.a,Tb.c]
 (repeat' (first|contradiction|exact .ok|apply And.intro|intro _|(refine gc (fun h=>?_) (fun h=>?_)<;>(have h':=h;(try simp at h');first|done|simp[h,h']|simp))))
 refine acallT_plain hp (by simp) ?_
 cases B with
 | true =>
   simp
   all_goals exact gz
 | false =>
   simp [Tb.c]
   (repeat' (first|contradiction|exact .ok|apply And.intro|intro _|(refine gc (fun h=>?_) (fun h=>?_)<;>(have h':=h;(try simp at h');first|done|simp[h,h']|simp))))
   refine acallT_hand [3] hc (by simp) (by simp) (by simp) (by simp) (by simp) ?_
   simp
   all_goals exact gz
theorem f_out (x:Tb) (hx:x.ok) (c:Int):Cf En 76 [.d (.int .i64 c),.ptr 1000000 0 0] [.var (x.c.map AV.d)] (.d (.bool (keyT x c))) [.var (x.c.map AV.d)]:=by
 refine cf_intro mix (fn:=Tryz.f76) (by kernel_rfl) rfl (by kernel_rfl) (by decide) (by simp) ?_
 simp [Tb.c]
 (repeat' (first|contradiction|exact .ok|apply And.intro|intro _|(refine gc (fun h=>?_) (fun h=>?_)<;>(have h':=h;(try simp at h');first|done|simp[h,h']|simp))))
 refine acallT_plain (f_free x hx c) (by simp [Tb.a,Tb.c]) ?_
 simp [Tb.c]
 all_goals exact gz
theorem f_outI (x:Tb) (hx:x.ok) (l:List Int) (hl:l.length≤9000000):Cf En 125 [.d (.sl (ints l)),.clo 76 [.ptr 1000000 0 0]] [.var (x.c.map AV.d)] (.d (.int .i64 (fidx (keyT x) l 0))) [.var (x.c.map AV.d)]:=by
 refine cf_intro mix (fn:=Tryz.f125) (by kernel_rfl) rfl (by kernel_rfl) (by decide) (by simp) ?_
 simp
 (repeat' (first|contradiction|exact .ok|apply And.intro|intro _|(refine gc (fun h=>?_) (fun h=>?_)<;>(have h':=h;(try simp at h');first|done|simp[h,h']|simp))))
 refine aloopT mix (by decide) (fun i:Nat=>{ s:=mkS [(0,.d (.sl (ints l))),(1,.clo 76 [.ptr 1000000 0 0]),(7,.d (.int .i64 l.length)),(8,.d (.int .i64 i))],b:=mkB [(1000000,1000000,.var (x.c.map AV.d))] }) (fun i=>i≤l.length∧fidx (keyT x) (l.drop i) i=fidx (keyT x) l 0) (fun i=>l.length - i) 0 (by simp) (sub_mk _ [(1000000,1000000,_)] ⟨by simp,by simp,by simp [renOf,Blk.live,Tb.c],base1⟩ (by simp [renOf])) ?_
 rintro i ⟨hi,hf⟩
 by_cases hlt:i<l.length
 ·rw [fidx_drop hlt] at hf
  obtain ⟨u,hu⟩:∃ u,u=l[i]:=⟨_,rfl⟩
  have hg:=ints_get hlt
  have hgi:∀ h,l[i]'h=u:=fun _=>hu.symm
  rw [← hu] at hf hg
  have hw:=wrap_in (n:=(i:Int)+1) (by omega) (by omega)
  simp [hlt,hgi,hg]
  (repeat' (first|contradiction|exact .ok|apply And.intro|intro _|(refine gc (fun h=>?_) (fun h=>?_)<;>(have h':=h;(try simp at h');first|done|simp[h,h']|simp))))
  refine acallT_hand [1000000] (f_out x hx u) (by simp) (by simp) (by simp) (by simp [Tb.c]) (by simp) ?_
  cases he:keyT x u
  ·rw [he] at hf
   simp [he]
   (repeat' (first|contradiction|exact .ok|apply And.intro|intro _|(refine gc (fun h=>?_) (fun h=>?_)<;>(have h':=h;(try simp at h');first|done|simp[h,h',he]|simp[he]))))
   refine ⟨i+1,⟨by omega,by simpa using hf⟩,?_,by simp; omega⟩
   exact sub_mk _ [(1000000,1000000,_)] ⟨by simp,by simp,by simp [renOf,Blk.live,Tb.c],base1⟩ (by simp [renOf,hw])
  ·rw [he] at hf
   simp only [if_true] at hf
   simp [he,← hf,Tb.c]
   (repeat' (first|contradiction|exact .ok|apply And.intro|intro _|(refine gc (fun h=>?_) (fun h=>?_)<;>(have h':=h;(try simp at h');first|done|simp[h,h',he]|simp[he]))))
 obtain rfl:i=l.length:=by omega
 rw [List.drop_length,fidx] at hf
 simp [← hf,Tb.c]
 all_goals exact gz
theorem f_outC (x:Tb) (hx:x.ok) (l:List Int) (hl:l.length≤9000000):Cf En 74 [.d (.sl (ints l)),.clo 76 [.ptr 1000000 0 0]] [.var (x.c.map AV.d)] (.d (.bool (l.any (keyT x)))) [.var (x.c.map AV.d)]:=by
 refine cf_intro mix (fn:=Tryz.f74) (by kernel_rfl) rfl (by kernel_rfl) (by decide) (by simp) ?_
 have h:=fidx_any (p:=keyT x) (l:=l) (i:=0)
 simp
 (repeat' (first|contradiction|exact .ok|apply And.intro|intro _|(refine gc (fun h=>?_) (fun h=>?_)<;>(have h':=h;(try simp at h');first|done|simp[h,h']|simp))))
 refine acallT_hand [1000000] (f_outI x hx l hl) (by simp) (by simp) (by simp) (by simp [Tb.c]) (by simp) ?_
 simp [h,Tb.c]
 all_goals exact gz
structure ChOk (e:Ex):Prop where
 few:e.few 0=true
 nodes:e.nodes≤1048576
theorem nums_ints (l:List Int):nums l=.sl (ints l):=rfl
theorem cols_le (e:Ex) (h:ChOk e):e.cols.length≤9000000:=by
 have:=cols_len e
 have:=h.nodes
 omega
theorem f_chk (x:Tb) (hx:x.ok) (e:Ex) (he:ChOk e):Cf En 73 [e.a,.ptr 1000000 0 0] [.var (x.c.map AV.d)] (.d (.bool (e.cols.any (keyT x)))) [.var (x.c.map AV.d)]:=by
 refine cf_intro mix (fn:=Tryz.f73) (by kernel_rfl) rfl (by kernel_rfl) (by decide) (by simp) ?_
 have hc:=c_cols _ e (Nat.lt_succ_self _) 0 he.few he.nodes
 have hl:=cols_le e he
 generalize e.cols=l at *
 rw [nums_ints] at hc
 rcases e with ⟨o,c,n,t,g,ks⟩
 simp [Ex.a,Ex.c]
 (repeat' (first|contradiction|exact .ok|apply And.intro|intro _|(refine gc (fun h=>?_) (fun h=>?_)<;>(have h':=h;(try simp at h');first|done|simp[h,h']|simp))))
 refine acallT_plain hc (by simp [Ex.a,Ex.c]) ?_
 simp
 (repeat' (first|contradiction|exact .ok|apply And.intro|intro _|(refine gc (fun h=>?_) (fun h=>?_)<;>(have h':=h;(try simp at h');first|done|simp[h,h']|simp))))
 refine acallT_hand [1000000] (f_outC x hx l hl) (by simp) (by simp) (by simp) (by simp [Tb.c]) (by simp) ?_
 simp [Tb.c]
 all_goals exact gz
theorem f_chkI (x:Tb) (hx:x.ok) (l:List Ex) (hl:l.length≤1000) (hE:∀ e∈l,ChOk e):Cf En 94 [.d (.sl (l.map Ex.c)),.clo 73 [.ptr 1000000 0 0]] [.var (x.c.map AV.d)] (.d (.int .i64 (fidx (fun e:Ex=>e.cols.any (keyT x)) l 0))) [.var (x.c.map AV.d)]:=by
 refine cf_intro mix (fn:=Tryz.f94) (by kernel_rfl) rfl (by kernel_rfl) (by decide) (by simp) ?_
 simp
 (repeat' (first|contradiction|exact .ok|apply And.intro|intro _|(refine gc (fun h=>?_) (fun h=>?_)<;>(have h':=h;(try simp at h');first|done|simp[h,h']|simp))))
 refine aloopT mix (by decide) (fun i:Nat=>{ s:=mkS [(0,.d (.sl (l.map Ex.c))),(1,.clo 73 [.ptr 1000000 0 0]),(7,.d (.int .i64 l.length)),(8,.d (.int .i64 i))],b:=mkB [(1000000,1000000,.var (x.c.map AV.d))] }) (fun i=>i≤l.length∧fidx (fun e:Ex=>e.cols.any (keyT x)) (l.drop i) i=fidx (fun e:Ex=>e.cols.any (keyT x)) l 0) (fun i=>l.length - i) 0 (by simp) (sub_mk _ [(1000000,1000000,_)] ⟨by simp,by simp,by simp [renOf,Blk.live,Tb.c],base1⟩ (by simp [renOf])) ?_
 rintro i ⟨hi,hg⟩
 by_cases hlt:i<l.length
 ·rw [fidx_drop hlt] at hg
  obtain ⟨u,hu⟩:∃ u,u=l[i]:=⟨_,rfl⟩
  have hgi:∀ h,l[i]'h=u:=fun _=>hu.symm
  have hc:=f_chk x hx u (hE u (by rw [hu]; exact List.getElem_mem hlt))
  rw [← hu] at hg
  generalize (u.cols.any (keyT x))=B at *
  have hw:=wrap_in (n:=(i:Int)+1) (by omega) (by omega)
  rcases u with ⟨o,cc,n,t,g,ks⟩
  simp [hlt,hgi,Ex.c]
  (repeat' (first|contradiction|exact .ok|apply And.intro|intro _|(refine gc (fun h=>?_) (fun h=>?_)<;>(have h':=h;(try simp at h');first|done|simp[h,h']|simp))))
  refine acallT_hand [1000000] hc (by simp) (by simp) (by simp) (by simp [Tb.c]) (by simp [Ex.a,Ex.c]) ?_
  cases B
  ·simp
   (repeat' (first|contradiction|exact .ok|apply And.intro|intro _|(refine gc (fun h=>?_) (fun h=>?_)<;>(have h':=h;(try simp at h');first|done|simp[h,h']|simp))))
   refine ⟨i+1,⟨by omega,by simpa using hg⟩,?_,by simp; omega⟩
   exact sub_mk _ [(1000000,1000000,_)] ⟨by simp,by simp,by simp [renOf,Blk.live,Tb.c],base1⟩ (by simp [renOf,hw])
  ·simp only [if_true] at hg
   simp [← hg,Tb.c]
   all_goals exact gz
 obtain rfl:i=l.length:=by omega
 rw [List.drop_length,fidx] at hg
 simp [← hg,Tb.c]
 all_goals exact gz
theorem f_chkC (x:Tb) (hx:x.ok) (l:List Ex) (hl:l.length≤1000) (hE:∀ e∈l,ChOk e):Cf En 45 [.d (.sl (l.map Ex.c)),.clo 73 [.ptr 1000000 0 0]] [.var (x.c.map AV.d)] (.d (.bool (l.any fun e=>e.cols.any (keyT x)))) [.var (x.c.map AV.d)]:=by
 refine cf_intro mix (fn:=Tryz.f45) (by kernel_rfl) rfl (by kernel_rfl) (by decide) (by simp) ?_
 have h:=fidx_any (p:=fun e:Ex=>e.cols.any (keyT x)) (l:=l) (i:=0)
 have hc:=f_chkI x hx l hl hE
 generalize (l.any fun e=>e.cols.any (keyT x))=A at *
 generalize fidx (fun e:Ex=>e.cols.any (keyT x)) l 0=F at *
 simp
 (repeat' (first|contradiction|exact .ok|apply And.intro|intro _|(refine gc (fun h=>?_) (fun h=>?_)<;>(have h':=h;(try simp at h');first|done|simp[h,h']|simp))))
 refine acallT_hand [1000000] hc (by simp) (by simp) (by simp) (by simp [Tb.c]) (by simp) ?_
 simp [h,Tb.c]
 all_goals exact gz
end Go.Proofs.Tryz
namespace Go.Proofs.Tryz
open Go.Ab
set_option maxRecDepth 100000
set_option maxHeartbeats 4000000
theorem s_valid (S:List Tb) (hl:S.length≤1000) (hS:∀ x∈S,x.ok) (hU:∀ x∈S,∀ l∈x.un,l.length≤1000) (ty:Tb→Ex→Int×Int)
  (hty:∀ x∈S,∀ e∈x.ch,Cf Es 118 [.d (.sl (ints (x.cols.map Col.t))),e.a] [] (.tup [.d (.int .i64 (ty x e).1),.d (.int .i64 (ty x e).2)]) []) :
  Cf Es 28 [schA S] [] (.d (.int .i64 (validE nm3 ty S))) []:=by
 refine cf_intro mixs (fn:=Tryz.f28) (by kernel_rfl) rfl (by kernel_rfl) (by decide) (by simp) ?_
 by_cases c1:6<S.length
 ·have i1:(6:Int)<S.length:=by omega
  rw [show validE nm3 ty S=8 from by unfold validE; rw [if_pos c1]]
  simp [schA,i1,c1]
  (repeat' (first|contradiction|exact .ok|apply And.intro|intro _|(refine gc (fun h=>?_) (fun h=>?_)<;>(have h':=h;(try simp at h');first|done|simp[h,h',i1,c1]|simp[i1,c1]))))
 have i1:¬ (6:Int)<S.length:=by omega
 have hR2:thenE (scanE (tabE nm3 ty S) S 0) (thenE (scanE (fun _ x=>scanE (fun _=>refE S x) x.fk 0) S 0) (ordS S).2)=validE nm3 ty S:=by unfold validE; rw [if_neg c1]
 generalize validE nm3 ty S=T at *
 simp [schA,i1,c1]
 (repeat' (first|contradiction|exact .ok|apply And.intro|intro _|(refine gc (fun h=>?_) (fun h=>?_)<;>(have h':=h;(try simp at h');first|done|simp[h,h',i1,c1]|simp[i1,c1]))))
 clear i1 c1
 refine aloopT mixs (by decide) (fun i:Nat=>{ s:=mkS [(1,.ptr 1 0 0),(20,.d (.sl (S.map Tb.c))),(21,.d (.int .i64 S.length)),(22,.d (.int .i64 i))],b:=mkB [(1,1,.var [.d (.sl (S.map Tb.c))])] }) (fun i=>i≤S.length∧scanE (tabE nm3 ty S) (S.drop i) i=scanE (tabE nm3 ty S) S 0) (fun i=>S.length - i) 0 (by simp)
  (sub_mk _ [(1,1,_)] ⟨by simp,by simp,by simp [renOf,Blk.live],by simp⟩ (by simp [renOf])) ?_
 rintro i ⟨hi,hf⟩
 by_cases hlt:i<S.length
 ·rw [scan_drop hlt] at hf
  have hw:=wrap_in (n:=(i:Int)+1) (by omega) (by omega)
  obtain ⟨x,hx⟩:∃ c,c=S[i]:=⟨_,rfl⟩
  have hgi:∀ h,S[i]'h=x:=fun _=>hx.symm
  have hxm:x∈S:=by rw [hx]; exact List.getElem_mem hlt
  obtain ⟨k,hk,hki⟩:=fidx_self (p:=fun d:Tb=>d.n==x.n) (b:=0) hlt (by rw [← hx]; simp)
  have hk':fidx (fun d:Tb=>d.n==x.n) S 0=k:=by rw [hk]; simp
  rw [← hx] at hf
  have hE:tabE nm3 ty S i x=if nm3 x.n=false then 3 else if (k:Int)<i then 5 else tableE nm3 ty x:=by unfold tabE; rw [hk']
  have hbad:∀ z:Int,tabE nm3 ty S i x=z→z ≠ 0→T=z:=fun z h h0=>by
   rw [h,if_pos h0] at hf
   rw [← hR2,← hf,then_bad h0]
  have hgood:tabE nm3 ty S i x=0→scanE (tabE nm3 ty S) (S.drop (i+1)) (i+1)=scanE (tabE nm3 ty S) S 0:=fun h=>by
   rw [h,if_neg (by simp)] at hf
   exact hf
  have htb:=s_table x (hS x hxm) (hU x hxm) ty (hty x hxm)
  generalize tabE nm3 ty S i x=E at *
  simp [hlt,hgi,Tb.c]
  (repeat' (first|contradiction|exact .ok|apply And.intro|intro _|(refine gc (fun h=>?_) (fun h=>?_)<;>(have h':=h;(try simp at h');first|done|simp[h,h']|simp))))
  refine acallT_plain (s_name x.n) (by simp) ?_
  cases hn:nm3 x.n with
  | false =>
    rw [hn,if_pos rfl] at hE
    rw [hbad 3 hE (by decide)]
    simp [hn]
    (repeat' (first|contradiction|exact .ok|apply And.intro|intro _|(refine gc (fun h=>?_) (fun h=>?_)<;>(have h':=h;(try simp at h');first|done|simp[h,h',hn]|simp[hn]))))
  | true =>
    rw [hn,if_neg (by decide)] at hE
    simp [hn]
    (repeat' (first|contradiction|exact .ok|apply And.intro|intro _|(refine gc (fun h=>?_) (fun h=>?_)<;>(have h':=h;(try simp at h');first|done|simp[h,h',hn]|simp[hn]))))
    refine acallT_plain (ups (s_find S hl x.n)) (by simp [schA]) ?_
    rw [place_at hk']
    by_cases hki2:k<i
    ·rw [if_pos (by omega)] at hE
     rw [hbad 5 hE (by decide)]
     simp [hki2]
     (repeat' (first|contradiction|exact .ok|apply And.intro|intro _|(refine gc (fun h=>?_) (fun h=>?_)<;>(have h':=h;(try simp at h');first|done|simp[h,h',hki2]|simp[hki2]))))
    ·rw [if_neg (by omega)] at hE
     simp [hki2]
     (repeat' (first|contradiction|exact .ok|apply And.intro|intro _|(refine gc (fun h=>?_) (fun h=>?_)<;>(have h':=h;(try simp at h');first|done|simp[h,h',hki2]|simp[hki2]))))
     refine acallT_plain htb (by simp [Tb.a,Tb.c]) ?_
     generalize tableE nm3 ty x=e at *
     by_cases he:e=0
     ·simp [he]
      (repeat' (first|contradiction|exact .ok|apply And.intro|intro _|(refine gc (fun h=>?_) (fun h=>?_)<;>(have h':=h;(try simp at h');first|done|simp[h,h',he]|simp[he]))))
      refine ⟨i+1,⟨by omega,hgood (by rw [hE,he])⟩,?_,by simp; omega⟩
      exact sub_mk _ [(1,1,_)] ⟨by simp,by simp,by simp [renOf,Blk.live],by simp⟩ (by simp [renOf,hw])
     ·rw [hbad e hE he]
      simp [he]
      (repeat' (first|contradiction|exact .ok|apply And.intro|intro _|(refine gc (fun h=>?_) (fun h=>?_)<;>(have h':=h;(try simp at h');first|done|simp[h,h',he]|simp[he]))))
 obtain rfl:i=S.length:=by omega
 rw [scan_end (Nat.le_refl _)] at hf
 have hK:=tabE_ok hf.symm
 rw [← hf,then_ok] at hR2
 clear hf hi hlt
 simp
 (repeat' (first|contradiction|exact .ok|apply And.intro|intro _|(refine gc (fun h=>?_) (fun h=>?_)<;>(have h':=h;(try simp at h');first|done|simp[h,h']|simp))))
 refine aloopT mixs (by decide) (fun i:Nat=>{ s:=mkS [(1,.ptr 1 0 0),(48,.d (.sl (S.map Tb.c))),(49,.d (.int .i64 S.length)),(50,.d (.int .i64 i))],b:=mkB [(1,1,.var [.d (.sl (S.map Tb.c))])] }) (fun i=>i≤S.length∧scanE (fun _ x=>scanE (fun _=>refE S x) x.fk 0) (S.drop i) i=scanE (fun _ x=>scanE (fun _=>refE S x) x.fk 0) S 0) (fun i=>S.length - i) 0 (by simp)
  (sub_mk _ [(1,1,_)] ⟨by simp,by simp,by simp [renOf,Blk.live],by simp⟩ (by simp [renOf])) ?_
 rintro i ⟨hi,hf⟩
 by_cases hlt:i<S.length
 ·rw [scan_drop hlt] at hf
  have hw:=wrap_in (n:=(i:Int)+1) (by omega) (by omega)
  obtain ⟨x,hx⟩:∃ c,c=S[i]:=⟨_,rfl⟩
  have hgi:∀ h,S[i]'h=x:=fun _=>hx.symm
  have hxm:x∈S:=by rw [hx]; exact List.getElem_mem hlt
  have hxf:=(hS x hxm).fk
  rw [← hx] at hf
  simp [hlt,hgi,Tb.c]
  (repeat' (first|contradiction|exact .ok|apply And.intro|intro _|(refine gc (fun h=>?_) (fun h=>?_)<;>(have h':=h;(try simp at h');first|done|simp[h,h']|simp))))
  refine aloopT mixs (by decide) (fun j:Nat=>{ s:=mkS [(1,.ptr 1 0 0),(9,.ptr 9 0 0),(48,.d (.sl (S.map Tb.c))),(49,.d (.int .i64 S.length)),(50,.d (.int .i64 i)),(55,.d (.sl (x.fk.map Fk.c))),(56,.d (.int .i64 x.fk.length)),(57,.d (.int .i64 j))],b:=mkB [(1,1,.var [.d (.sl (S.map Tb.c))]),(9,9,.var (x.c.map AV.d))] }) (fun j=>j≤x.fk.length∧scanE (fun _=>refE S x) (x.fk.drop j) j=scanE (fun _=>refE S x) x.fk 0) (fun j=>x.fk.length - j) 0 (by simp)
   (sub_mk _ [(1,1,_),(9,9,_)] ⟨by simp,by simp,by simp [renOf,Blk.live,Tb.c],by simp⟩ (by simp [renOf])) ?_
  rintro j ⟨hj,hg⟩
  by_cases hjl:j<x.fk.length
  ·rw [scan_drop hjl] at hg
   have hwj:=wrap_in (n:=(j:Int)+1) (by omega) (by omega)
   obtain ⟨f,hfx⟩:∃ c,c=x.fk[j]:=⟨_,rfl⟩
   have hgf:∀ h,x.fk[j]'h=f:=fun _=>hfx.symm
   have hfm:f∈x.fk:=by rw [hfx]; exact List.getElem_mem hjl
   have hr:=ups (s_reference S hl hS hK x hxm f hfm)
   rw [← hfx] at hg
   simp [hjl,hgf,Fk.c,Tb.c]
   (repeat' (first|contradiction|exact .ok|apply And.intro|intro _|(refine gc (fun h=>?_) (fun h=>?_)<;>(have h':=h;(try simp at h');first|done|simp[h,h']|simp))))
   refine acallT_plain hr (by simp [schA,Tb.a,Tb.c,Fk.a,Fk.c]) ?_
   generalize refE S x f=e at *
   by_cases he:e=0
   ·rw [if_neg (by simpa using he)] at hg
    simp [he]
    (repeat' (first|contradiction|exact .ok|apply And.intro|intro _|(refine gc (fun h=>?_) (fun h=>?_)<;>(have h':=h;(try simp at h');first|done|simp[h,h',he]|simp[he]))))
    refine ⟨j+1,⟨by omega,hg⟩,?_,by simp; omega⟩
    exact sub_mk _ [(1,1,_),(9,9,_)] ⟨by simp,by simp,by simp [renOf,Blk.live,Tb.c],by simp⟩ (by simp [renOf,hwj])
   ·rw [if_pos he] at hg
    rw [← hg,if_pos he] at hf
    rw [← hf,then_bad he] at hR2
    rw [← hR2]
    simp [he]
    (repeat' (first|contradiction|exact .ok|apply And.intro|intro _|(refine gc (fun h=>?_) (fun h=>?_)<;>(have h':=h;(try simp at h');first|done|simp[h,h',he]|simp[he]))))
  ·obtain rfl:j=x.fk.length:=by omega
   rw [scan_end (Nat.le_refl _)] at hg
   rw [← hg,if_neg (by simp)] at hf
   simp
   (repeat' (first|contradiction|exact .ok|apply And.intro|intro _|(refine gc (fun h=>?_) (fun h=>?_)<;>(have h':=h;(try simp at h');first|done|simp[h,h']|simp))))
   refine ⟨i+1,⟨by omega,hf⟩,?_,by simp; omega⟩
   exact sub_mk _ [(1,1,_)] ⟨by simp,by simp,by simp [renOf,Blk.live],by simp⟩ (by simp [renOf,hw])
 obtain rfl:i=S.length:=by omega
 rw [scan_end (Nat.le_refl _)] at hf
 rw [← hf,then_ok] at hR2
 rw [← hR2]
 simp
 (repeat' (first|contradiction|exact .ok|apply And.intro|intro _|(refine gc (fun h=>?_) (fun h=>?_)<;>(have h':=h;(try simp at h');first|done|simp[h,h']|simp))))
 refine acallT_plain (ups (s_order S hl hS)) (by simp [schA]) ?_
 simp
 all_goals exact gz
end Go.Proofs.Tryz
namespace Go.Proofs.Tryz
open Go.Ab
set_option maxRecDepth 100000
set_option maxHeartbeats 2000000
def insX (S R:List V) (v:V) (j:Nat):List V:=S.take j++v::(S.drop j++R)
theorem insX_at {S R:List V} {v:V} {j:Nat} (h:j≤S.length):(insX S R v j)[j]?=some v:=by
 unfold insX
 rw [List.getElem?_append_right (by simp; omega),List.length_take,Nat.min_eq_left h,Nat.sub_self]
 rfl
theorem insX_before {S R:List V} {v:V} {p:Nat} (h:p<S.length):(insX S R v (p+1))[p]?=some S[p]:=by
 unfold insX
 rw [List.getElem?_append_left (by simp; omega),List.getElem?_take,if_pos (by omega),List.getElem?_eq_getElem h]
theorem insX_len (S R:List V) (v:V) {j:Nat} (h:j≤S.length):(insX S R v j).length=S.length+1+R.length:=by
 unfold insX; simp; omega
theorem insX_swap {S R:List V} {v:V} {p:Nat} (h:p<S.length):((insX S R v (p+1)).set (p+1) S[p]).set p v=insX S R v p:=by
 apply List.ext_getElem?
 intro k
 unfold insX
 by_cases c1:k=p
 ·subst c1
  rw [List.getElem?_set_self (by simp; omega)]
  exact (insX_at (R:=R) (v:=v) (Nat.le_of_lt h)).symm
 ·rw [List.getElem?_set_ne (fun e=>c1 e.symm)]
  by_cases c2:k=p+1
  ·subst c2
   rw [List.getElem?_set_self (by simp; omega),List.getElem?_append_right (by simp; omega)]
   simp
   rw [Nat.min_eq_left (by omega),show p+1 - p=1 from by omega,List.getElem?_cons_succ,List.getElem?_append_left (by simp; omega),List.getElem?_drop,List.getElem?_eq_getElem (by omega)]
   rfl
  ·rw [List.getElem?_set_ne (fun e=>c2 e.symm)]
   rcases Nat.lt_or_ge k p with c | c
   ·rw [List.getElem?_append_left (by simp; omega),List.getElem?_append_left (by simp; omega),List.getElem?_take,List.getElem?_take,if_pos (by omega),if_pos c]
   ·rw [List.getElem?_append_right (by simp; omega),List.getElem?_append_right (by simp; omega)]
    simp only [List.length_take]
    rw [Nat.min_eq_left (by omega),Nat.min_eq_left (by omega),show k - (p+1)=(k - p - 2)+1 from by omega,show k - p=(k - p - 2)+1+1 from by omega,List.getElem?_cons_succ,List.getElem?_cons_succ]
    rw [List.drop_eq_getElem_cons h,List.cons_append,List.getElem?_cons_succ]
    congr 1
theorem isort_take {l:List V} {i:Nat} (h:i<l.length):isort (l.take (i+1))=insS (isort (l.take i)) l[i]:=by
 unfold isort
 rw [take_snoc h,List.foldl_append]
 rfl
theorem insS_len (acc:List V) (v:V):(insS acc v).length=acc.length+1:=by
 have:=posS_le acc v acc.length
 unfold insS; simp; omega
theorem isort_len (l:List V):(isort l).length=l.length:=by
 have:∀ (m acc:List V),(m.foldl insS acc).length=acc.length+m.length:=by
  intro m
  induction m with
  | nil=>intro acc; simp
  | cons v m ih=>intro acc; rw [List.foldl_cons,ih,insS_len,List.length_cons]; omega
 have h:=this l []
 unfold isort; simpa using h
def isF (n:Nat) (i:Nat) (x:Nat×List V):St :=
 { s:=mkS [(0,.ref 1000000 0 n 3),(1,.d (.int .i64 0)),(2,.d (.int .i64 n)),(3,.clo 141 []),(8,.d (.int .i64 i)),(9,.d (.int .i64 x.1))],b:=mkB [(1000000,1000000,.arr 79 3 (x.2.map V.c) false)] }
theorem ins_sort (l:List V) (hl:l.length≤1000):Cf En 223 [.ref 1000000 0 l.length 3,.d (.int .i64 0),.d (.int .i64 l.length),.clo 141 []] [.arr 79 3 (l.map V.c) false] (.tup []) [.arr 79 3 ((isort l).map V.c) false]:=by
 refine cf_intro mix (fn:=Tryz.f223) (by kernel_rfl) rfl (by kernel_rfl) (by decide) (by simp) ?_
 simp [show IntKind.i64.wrap 1=1 from by decide]
 (repeat' (first|contradiction|exact .ok|apply And.intro|intro _|(refine gc (fun h=>?_) (fun h=>?_)<;>(have h':=h;(try simp at h');first|done|simp[h,h']|simp))))
 refine aloopT mix (by decide) (fun i:Nat=>{ s:=mkS [(0,.ref 1000000 0 l.length 3),(1,.d (.int .i64 0)),(2,.d (.int .i64 l.length)),(3,.clo 141 []),(8,.d (.int .i64 i))],b:=mkB [(1000000,1000000,.arr 79 3 ((isort (l.take i)++l.drop i).map V.c) false)] }) (fun i=>1≤i) (fun i=>l.length - i) 1 (by simp) (sub_mk _ [(1000000,1000000,_)] ⟨by simp,by simp,?_,base1⟩ (by simp [renOf])) ?_
 ·have e:isort (l.take 1)++l.drop 1=l:=by
   cases l with
   | nil=>rfl
   | cons v r=>simp [isort,insS,posS]
  have e':List.map V.c (isort (l.take 1))++(List.map V.c l).tail=List.map V.c l:=by rw [← List.drop_one,← List.map_drop,← List.map_append,e]
  simp [renOf,Blk.live,e']
 intro i hi1
 by_cases hlt:i<l.length
 ·have ht:=isort_take hlt
  obtain ⟨v,hv⟩:∃ v,v=l[i]:=⟨_,rfl⟩
  rw [← hv] at ht
  have hd:l.drop i=v::l.drop (i+1):=by rw [List.drop_eq_getElem_cons hlt,hv]
  have hSl:(isort (l.take i)).length=i:=by rw [isort_len]; simp; omega
  have hw:=wrap_in (n:=(i:Int)+1) (by omega) (by omega)
  rw [hd]
  have hlR:(l.drop (i+1)).length=l.length - (i+1):=by simp
  generalize isort (l.take i)=S at *
  generalize hR:l.drop (i+1)=R at *
  have hX0:S++v::R=insX S R v i:=by unfold insX; rw [← hSl,List.take_length,List.drop_length,List.nil_append]
  simp [hlt]
  (repeat' (first|contradiction|exact .ok|apply And.intro|intro _|(refine gc (fun h=>?_) (fun h=>?_)<;>(have h':=h;(try simp at h');first|done|simp[h,h']|simp))))
  refine aloopT mix (by decide) (isF l.length i) (fun x=>x.1≤i∧x.2=insX S R v x.1∧posS S v x.1=posS S v i) (fun x=>x.1) (i,S++v::R) ⟨by simp,hX0,rfl⟩ (sub_mk _ [(1000000,1000000,_)] ⟨by simp,by simp,by simp [renOf,Blk.live],base1⟩ (by simp [renOf])) ?_
  rintro ⟨j,X⟩ ⟨hj,hX,hp⟩
  simp only at hj hX hp
  have hXl:X.length=l.length:=by rw [hX,insX_len S R v (by omega)]; omega
  have hfin:posS S v i=j→insX S R v j=insS S v++R:=fun e=>by
   unfold insS; rw [hSl,e]; unfold insX; simp
  cases j with
  | zero =>
    have hX2:X=insS S v++R:=by rw [hX]; exact hfin (by rw [← hp]; rfl)
    simp [isF]
    (repeat' (first|contradiction|exact .ok|apply And.intro|intro _|(refine gc (fun h=>?_) (fun h=>?_)<;>(have h':=h;(try simp at h');first|done|simp[h,h']|simp))))
    refine ⟨i+1,by omega,?_,by simp; omega⟩
    exact sub_mk _ [(1000000,1000000,_)] ⟨by simp,by simp,by simp [renOf,Blk.live,hX2,ht,hR],base1⟩ (by simp [renOf,hw])
  | succ p =>
    have hps:p<S.length:=by omega
    obtain ⟨u,hu⟩:∃ u,u=S[p]:=⟨_,rfl⟩
    have g1:X[p+1]?=some v:=by rw [hX]; exact insX_at (by omega)
    have g2:X[p]?=some u:=by rw [hX,hu]; exact insX_before hps
    have hlX:p+1<X.length:=by omega
    have hlX0:p<X.length:=by omega
    have hln:p+1<l.length:=by omega
    have hln0:p<l.length:=by omega
    have q1:∀ h,X[p+1]'h=v:=fun h=>by rw [List.getElem?_eq_getElem h] at g1; exact Option.some.inj g1
    have q2:∀ h,X[p]'h=u:=fun h=>by rw [List.getElem?_eq_getElem h] at g2; exact Option.some.inj g2
    have hsw:(X.set (p+1) u).set p v=insX S R v p:=by rw [hX,hu]; exact insX_swap hps
    have hpos:posS S v (p+1)=if v.cmp u<0 then posS S v p else p+1:=by rw [posS,List.getElem?_eq_getElem hps,hu]; rfl
    rw [hpos] at hp
    have h0:(0:Int)<(p:Int)+1:=by omega
    have h1:(0:Int)≤(p:Int)+1:=by omega
    have hwp:IntKind.i64.wrap (p:Int)=p:=wrap_in (by omega) (by omega)
    simp [isF,h0,h1,hwp,hln,hln0,hlX,hlX0,q1,q2,V.c]
    (repeat' (first|contradiction|exact .ok|apply And.intro|intro _|(refine gc (fun h=>?_) (fun h=>?_)<;>(have h':=h;(try simp at h');first|done|simp[h,h']|simp))))
    refine acallT_plain (v_compare v u) (by simp [V.a]) ?_
    by_cases hc:v.cmp u<0
    ·rw [if_pos hc] at hp
     simp [hc,h0,h1,hwp,hln,hln0,hlX,hlX0,q1,q2,V.c]
     (repeat' (first|contradiction|exact .ok|apply And.intro|intro _|(refine gc (fun h=>?_) (fun h=>?_)<;>(have h':=h;(try simp at h');first|done|simp[h,h',hc]|simp[hc]))))
     refine ⟨(p,(X.set (p+1) u).set p v),⟨by simp only; omega,hsw,hp⟩,?_,by simp⟩
     exact sub_mk _ [(1000000,1000000,_)] ⟨by simp,by simp,by simp [renOf,Blk.live,List.map_set,V.c],base1⟩ (by simp [renOf,hwp])
    ·rw [if_neg hc] at hp
     have hX2:X=insS S v++R:=by rw [hX]; exact hfin hp.symm
     simp [hc]
     (repeat' (first|contradiction|exact .ok|apply And.intro|intro _|(refine gc (fun h=>?_) (fun h=>?_)<;>(have h':=h;(try simp at h');first|done|simp[h,h',hc]|simp[hc]))))
     refine ⟨i+1,by omega,?_,by simp; omega⟩
     exact sub_mk _ [(1000000,1000000,_)] ⟨by simp,by simp,by simp [renOf,Blk.live,hX2,ht,hR],base1⟩ (by simp [renOf,hw])
 ·have hlt':¬ (i:Int)<l.length:=by omega
  have e1:l.take i=l:=List.take_of_length_le (by omega)
  have e2:l.drop i=[]:=List.drop_of_length_le (by omega)
  simp [hlt,e1,e2]
  all_goals exact gz
end Go.Proofs.Tryz
