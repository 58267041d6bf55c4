import Derived.Test.YtkkbepgccddjoaaGreatDoorSty
set_option linter.all false
namespace Go.Proofs.Tryz
open Go.Ab
set_option maxRecDepth 100000
set_option maxHeartbeats 4000000
theorem fidx_self {α:Type} {p:α→Bool}:∀ {l:List α} {i b:Nat} (h:i<l.length),p l[i]=true→∃ k:Nat,fidx p l b=(b:Int)+k∧k≤i
 | x::l,0,b,h,hp=>⟨0,by rw [fidx,if_pos (by simpa using hp)]; simp,Nat.le_refl _⟩
 | x::l,i+1,b,h,hp=>by
   rw [fidx]
   split
   ·exact ⟨0,by simp,by omega⟩
   ·obtain ⟨k,hk,hki⟩:=fidx_self (b:=b+1) (i:=i) (l:=l) (by simpa using h) (by simpa using hp)
    exact ⟨k+1,by rw [hk]; push_cast; omega,by omega⟩
theorem tableE_big {nm:List UInt8→Bool} {ty:Tb→Ex→Int×Int} {x:Tb} (h:8<x.cols.length∨3<x.un.length∨3<x.fk.length∨4<x.ch.length):tableE nm ty x=8:=by unfold tableE; rw [if_pos h]
abbrev nm3:List UInt8→Bool:=nameOk words
theorem s_table (x:Tb) (hx:x.ok) (hu:∀ l∈x.un,l.length≤1000) (ty:Tb→Ex→Int×Int)
  (hty:∀ e∈x.ch,Cf Es 92 [.d (.sl (ints (x.cols.map Col.t))),e.a] [] (.tup [.d (.int .i64 (ty x e).1),.d (.int .i64 (ty x e).2)]) []) :
  Cf Es 158 [x.a] [] (.d (.int .i64 (tableE nm3 ty x))) []:=by
 refine cf_intro mixs (fn:=Tryz.f158) (by kernel_rfl) rfl (by kernel_rfl) (by decide) (by simp) ?_
 have hcl:=hx.cols
 by_cases c1:8<x.cols.length
 ·have i1:(8:Int)<x.cols.length:=by omega
  rw [tableE_big (.inl c1)]
  simp [Tb.a,Tb.c,i1,c1]
  (repeat' (first|contradiction|exact .ok|apply And.intro|intro _|(refine gc (fun h=>?_) (fun h=>?_)<;>(have h':=h;(try simp at h');first|done|simp[h,h',i1,c1]|simp[i1,c1]))))
 have i1:¬ (8:Int)<x.cols.length:=by omega
 by_cases c2:3<x.un.length
 ·have i2:(3:Int)<x.un.length:=by omega
  rw [tableE_big (.inr (.inl c2))]
  simp [Tb.a,Tb.c,i1,i2,c1,c2]
  (repeat' (first|contradiction|exact .ok|apply And.intro|intro _|(refine gc (fun h=>?_) (fun h=>?_)<;>(have h':=h;(try simp at h');first|done|simp[h,h',i1,i2,c1,c2]|simp[i1,i2,c1,c2]))))
 have i2:¬ (3:Int)<x.un.length:=by omega
 by_cases c3:3<x.fk.length
 ·have i3:(3:Int)<x.fk.length:=by omega
  rw [tableE_big (.inr (.inr (.inl c3)))]
  simp [Tb.a,Tb.c,i1,i2,i3,c1,c2,c3]
  (repeat' (first|contradiction|exact .ok|apply And.intro|intro _|(refine gc (fun h=>?_) (fun h=>?_)<;>(have h':=h;(try simp at h');first|done|simp[h,h',i1,i2,i3,c1,c2,c3]|simp[i1,i2,i3,c1,c2,c3]))))
 have i3:¬ (3:Int)<x.fk.length:=by omega
 by_cases c4:4<x.ch.length
 ·have i4:(4:Int)<x.ch.length:=by omega
  rw [tableE_big (.inr (.inr (.inr c4)))]
  simp [Tb.a,Tb.c,i1,i2,i3,i4,c1,c2,c3,c4]
  (repeat' (first|contradiction|exact .ok|apply And.intro|intro _|(refine gc (fun h=>?_) (fun h=>?_)<;>(have h':=h;(try simp at h');first|done|simp[h,h',i1,i2,i3,i4,c1,c2,c3,c4]|simp[i1,i2,i3,i4,c1,c2,c3,c4]))))
 have i4:¬ (4:Int)<x.ch.length:=by omega
 have hR:∀ z:Int,tableE nm3 ty x=z↔(if x.cols.length=0 then 9 else thenE (scanE (colE nm3 x.cols) x.cols 0) (thenE (keysE x) (scanE (fun _=>chkE (ty x)) x.ch 0)))=z:=fun z=>by
  unfold tableE
  rw [if_neg (by omega)]
 generalize hT:tableE nm3 ty x=T at *
 have hR2:=(hR T).1 rfl
 clear hR hT
 by_cases c0:x.cols.length=0
 ·have i0:(x.cols.length:Int)=0:=by omega
  rw [if_pos c0] at hR2
  rw [← hR2]
  simp [Tb.a,Tb.c,i1,i2,i3,i4,c1,c2,c3,c4,i0,c0]
  (repeat' (first|contradiction|exact .ok|apply And.intro|intro _|(refine gc (fun h=>?_) (fun h=>?_)<;>(have h':=h;(try simp at h');first|done|simp[h,h',i1,i2,i3,i4,c1,c2,c3,c4,i0,c0]|simp[i1,i2,i3,i4,c1,c2,c3,c4,i0,c0]))))
 have i0:¬ (x.cols.length:Int)=0:=by omega
 rw [if_neg c0] at hR2
 simp [Tb.a,Tb.c,i1,i2,i3,i4,c1,c2,c3,c4,i0,c0]
 (repeat' (first|contradiction|exact .ok|apply And.intro|intro _|(refine gc (fun h=>?_) (fun h=>?_)<;>(have h':=h;(try simp at h');first|done|simp[h,h',i1,i2,i3,i4,c1,c2,c3,c4,i0,c0]|simp[i1,i2,i3,i4,c1,c2,c3,c4,i0,c0]))))
 clear i1 i2 i3 i4 c1 c2 c3 c4 i0 c0
 refine aloopT mixs (by decide) (fun i:Nat=>{ s:=mkS [(1,.ptr 1 0 0),(41,.d (.sl (x.cols.map Col.c))),(42,.d (.int .i64 x.cols.length)),(43,.d (.int .i64 i))],b:=mkB [(1,1,.var (x.c.map AV.d))] }) (fun i=>i≤x.cols.length∧scanE (colE nm3 x.cols) (x.cols.drop i) i=scanE (colE nm3 x.cols) x.cols 0) (fun i=>x.cols.length - i) 0 (by simp)
  (sub_mk _ [(1,1,_)] ⟨by simp,by simp,by simp [renOf,Blk.live,Tb.c],by simp⟩ (by simp [renOf])) ?_
 rintro i ⟨hi,hf⟩
 by_cases hlt:i<x.cols.length
 ·rw [scan_drop hlt] at hf
  have hw:=wrap_in (n:=(i:Int)+1) (by omega) (by omega)
  obtain ⟨c,hc⟩:∃ c,c=x.cols[i]:=⟨_,rfl⟩
  have hgi:∀ h,x.cols[i]'h=c:=fun _=>hc.symm
  obtain ⟨k,hk,hki⟩:=fidx_self (p:=fun d:Col=>d.n==c.n) (b:=0) hlt (by rw [← hc]; simp)
  have hk':fidx (fun d:Col=>d.n==c.n) x.cols 0=k:=by rw [hk]; simp
  rw [← hc] at hf
  have hbad:∀ z:Int,colE nm3 x.cols i c=z→z ≠ 0→T=z:=fun z h h0=>by
   rw [h,if_pos h0] at hf
   rw [← hR2,← hf,then_bad h0]
  have hgood:colE nm3 x.cols i c=0→scanE (colE nm3 x.cols) (x.cols.drop (i+1)) (i+1)=scanE (colE nm3 x.cols) x.cols 0:=fun h=>by
   rw [h,if_neg (by simp)] at hf
   exact hf
  have hE:colE nm3 x.cols i c=if nm3 c.n=false then 3 else if (k:Int)<i then 5 else if c.t=1∨c.t=2∨c.t=3 then 0 else 4:=by unfold colE; rw [hk']
  generalize colE nm3 x.cols i c=E at *
  simp [hlt,hgi,Col.c]
  (repeat' (first|contradiction|exact .ok|apply And.intro|intro _|(refine gc (fun h=>?_) (fun h=>?_)<;>(have h':=h;(try simp at h');first|done|simp[h,h']|simp))))
  refine acallT_plain (s_name c.n) (by simp) ?_
  cases hn:nm3 c.n with
  | false =>
    rw [hn,if_pos rfl] at hE
    rw [hbad 3 hE (by decide)]
    simp [hn]
    (repeat' (first|contradiction|exact .ok|apply And.intro|intro _|(refine gc (fun h=>?_) (fun h=>?_)<;>(have h':=h;(try simp at h');first|done|simp[h,h',hn]|simp[hn]))))
  | true =>
    rw [hn,if_neg (by decide)] at hE
    simp [hn,Tb.c]
    (repeat' (first|contradiction|exact .ok|apply And.intro|intro _|(refine gc (fun h=>?_) (fun h=>?_)<;>(have h':=h;(try simp at h');first|done|simp[h,h',hn]|simp[hn]))))
    refine acallT_plain (ups (s_column x (by omega) c.n)) (by simp [Tb.a,Tb.c]) ?_
    rw [place_at hk']
    by_cases hki2:k<i
    ·rw [if_pos (by omega)] at hE
     rw [hbad 5 hE (by decide)]
     simp [hki2]
     (repeat' (first|contradiction|exact .ok|apply And.intro|intro _|(refine gc (fun h=>?_) (fun h=>?_)<;>(have h':=h;(try simp at h');first|done|simp[h,h',hki2]|simp[hki2]))))
    ·rw [if_neg (by omega)] at hE
     have hki3:¬ (k:Int)<i:=by omega
     by_cases t1:c.t=1
     ·rw [if_pos (.inl t1)] at hE
      simp [hki2,hki3,t1]
      (repeat' (first|contradiction|exact .ok|apply And.intro|intro _|(refine gc (fun h=>?_) (fun h=>?_)<;>(have h':=h;(try simp at h');first|done|simp[h,h',t1]|simp[t1]))))
      refine ⟨i+1,⟨by omega,hgood hE⟩,?_,by simp; omega⟩
      exact sub_mk _ [(1,1,_)] ⟨by simp,by simp,by simp [renOf,Blk.live,Tb.c],by simp⟩ (by simp [renOf,hw])
     by_cases t2:c.t=2
     ·rw [if_pos (.inr (.inl t2))] at hE
      simp [hki2,hki3,t1,t2]
      (repeat' (first|contradiction|exact .ok|apply And.intro|intro _|(refine gc (fun h=>?_) (fun h=>?_)<;>(have h':=h;(try simp at h');first|done|simp[h,h',t1,t2]|simp[t1,t2]))))
      refine ⟨i+1,⟨by omega,hgood hE⟩,?_,by simp; omega⟩
      exact sub_mk _ [(1,1,_)] ⟨by simp,by simp,by simp [renOf,Blk.live,Tb.c],by simp⟩ (by simp [renOf,hw])
     by_cases t3:c.t=3
     ·rw [if_pos (.inr (.inr t3))] at hE
      simp [hki2,hki3,t1,t2,t3]
      (repeat' (first|contradiction|exact .ok|apply And.intro|intro _|(refine gc (fun h=>?_) (fun h=>?_)<;>(have h':=h;(try simp at h');first|done|simp[h,h',t1,t2,t3]|simp[t1,t2,t3]))))
      refine ⟨i+1,⟨by omega,hgood hE⟩,?_,by simp; omega⟩
      exact sub_mk _ [(1,1,_)] ⟨by simp,by simp,by simp [renOf,Blk.live,Tb.c],by simp⟩ (by simp [renOf,hw])
     ·rw [if_neg (by omega)] at hE
      rw [hbad 4 hE (by decide)]
      simp [hki2,hki3,t1,t2,t3]
      (repeat' (first|contradiction|exact .ok|apply And.intro|intro _|(refine gc (fun h=>?_) (fun h=>?_)<;>(have h':=h;(try simp at h');first|done|simp[h,h',t1,t2,t3]|simp[t1,t2,t3]))))
 obtain rfl:i=x.cols.length:=by omega
 rw [scan_end (Nat.le_refl _)] at hf
 rw [← hf,then_ok] at hR2
 clear hf hi hlt
 simp [Tb.c]
 (repeat' (first|contradiction|exact .ok|apply And.intro|intro _|(refine gc (fun h=>?_) (fun h=>?_)<;>(have h':=h;(try simp at h');first|done|simp[h,h']|simp))))
 refine acallT_plain (ups (s_keys x hx hu)) (by simp [Tb.a,Tb.c]) ?_
 by_cases hk:keysE x=0
 rotate_left
 ·rw [then_bad hk] at hR2
  rw [← hR2]
  simp [hk]
  (repeat' (first|contradiction|exact .ok|apply And.intro|intro _|(refine gc (fun h=>?_) (fun h=>?_)<;>(have h':=h;(try simp at h');first|done|simp[h,h',hk]|simp[hk]))))
 rw [hk,then_ok] at hR2
 simp [hk,Tb.c]
 (repeat' (first|contradiction|exact .ok|apply And.intro|intro _|(refine gc (fun h=>?_) (fun h=>?_)<;>(have h':=h;(try simp at h');first|done|simp[h,h']|simp))))
 have hhl:=hx.ch
 refine aloopT mixs (by decide) (fun i:Nat=>{ s:=mkS [(1,.ptr 1 0 0),(82,.d (.sl (x.ch.map Ex.c))),(83,.d (.int .i64 x.ch.length)),(84,.d (.int .i64 i))],b:=mkB [(1,1,.var (x.c.map AV.d))] }) (fun i=>i≤x.ch.length∧scanE (fun _=>chkE (ty x)) (x.ch.drop i) i=scanE (fun _=>chkE (ty x)) x.ch 0) (fun i=>x.ch.length - i) 0 (by simp)
  (sub_mk _ [(1,1,_)] ⟨by simp,by simp,by simp [renOf,Blk.live,Tb.c],by simp⟩ (by simp [renOf])) ?_
 rintro i ⟨hi,hf⟩
 by_cases hlt:i<x.ch.length
 ·rw [scan_drop hlt] at hf
  have hw:=wrap_in (n:=(i:Int)+1) (by omega) (by omega)
  obtain ⟨e,he⟩:∃ e,e=x.ch[i]:=⟨_,rfl⟩
  have hgi:∀ h,x.ch[i]'h=e:=fun _=>he.symm
  have hem:e∈x.ch:=by rw [he]; exact List.getElem_mem hlt
  rw [← he] at hf
  have hte:=hty e hem
  have hC:chkE (ty x) e=(if (ty x e).2 ≠ 0 then (ty x e).2 else if (ty x e).1 ≠ 2 then 4 else 0):=rfl
  have hbad:chkE (ty x) e ≠ 0→T=chkE (ty x) e:=fun h0=>by
   rw [if_pos h0] at hf
   rw [← hR2,← hf]
  have hgood:chkE (ty x) e=0→scanE (fun _=>chkE (ty x)) (x.ch.drop (i+1)) (i+1)=scanE (fun _=>chkE (ty x)) x.ch 0:=fun h=>by
   rw [h,if_neg (by simp)] at hf
   exact hf
  generalize chkE (ty x) e=F at hC hbad hgood
  clear hf
  rcases e with ⟨o,c,n,t,g,ks⟩
  simp [hlt,hgi,Ex.c,Tb.c]
  (repeat' (first|contradiction|exact .ok|apply And.intro|intro _|(refine gc (fun h=>?_) (fun h=>?_)<;>(have h':=h;(try simp at h');first|done|simp[h,h']|simp))))
  refine acallT_plain (ups (s_types x hx)) (by simp [Tb.a,Tb.c]) ?_
  simp
  (repeat' (first|contradiction|exact .ok|apply And.intro|intro _|(refine gc (fun h=>?_) (fun h=>?_)<;>(have h':=h;(try simp at h');first|done|simp[h,h']|simp))))
  refine acallT_plain hte (by simp [Ex.a,Ex.c]) ?_
  generalize hE:ty x (.mk o c n t g ks)=E at *
  by_cases h2:E.2=0
  rotate_left
  ·rw [if_pos h2] at hC
   rw [hbad (by rw [hC]; exact h2),hC]
   simp [h2]
   (repeat' (first|contradiction|exact .ok|apply And.intro|intro _|(refine gc (fun h=>?_) (fun h=>?_)<;>(have h':=h;(try simp at h');first|done|simp[h,h',h2]|simp[h2]))))
  rw [if_neg (by simpa using h2)] at hC
  by_cases h1:E.1=2
  ·rw [if_neg (by simpa using h1)] at hC
   simp [h1,h2]
   (repeat' (first|contradiction|exact .ok|apply And.intro|intro _|(refine gc (fun h=>?_) (fun h=>?_)<;>(have h':=h;(try simp at h');first|done|simp[h,h',h1,h2]|simp[h1,h2]))))
   refine ⟨i+1,⟨by omega,hgood hC⟩,?_,by simp; omega⟩
   exact sub_mk _ [(1,1,_)] ⟨by simp,by simp,by simp [renOf,Blk.live,Tb.c],by simp⟩ (by simp [renOf,hw])
  ·rw [if_pos h1] at hC
   rw [hbad (by rw [hC]; decide),hC]
   simp [h1,h2]
   (repeat' (first|contradiction|exact .ok|apply And.intro|intro _|(refine gc (fun h=>?_) (fun h=>?_)<;>(have h':=h;(try simp at h');first|done|simp[h,h',h1,h2]|simp[h1,h2]))))
 obtain rfl:i=x.ch.length:=by omega
 rw [scan_end (Nat.le_refl _)] at hf
 rw [← hR2,← hf]
 simp
 all_goals exact gz
end Go.Proofs.Tryz
