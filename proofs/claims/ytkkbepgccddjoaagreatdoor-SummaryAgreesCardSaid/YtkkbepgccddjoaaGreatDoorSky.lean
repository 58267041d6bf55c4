import Derived.Test.YtkkbepgccddjoaaGreatDoorATgt
set_option linter.all false
namespace Go.Proofs.Tryz
open Go.Ab
set_option maxRecDepth 100000
set_option maxHeartbeats 2000000
theorem s_nul1 (x:Tb) (c:Int) (h:0≤c∧c<x.cols.length):Cf En 241 [.d (.int .i64 c),.ptr 1000000 0 0] [.var (x.c.map AV.d)] (.d (.bool (nulT x c))) [.var (x.c.map AV.d)]:=by
 refine cf_intro mix (fn:=Tryz.f241) (by kernel_rfl) rfl (by kernel_rfl) (by decide) (by simp) ?_
 obtain ⟨k,rfl⟩:∃ k:Nat,c=k:=⟨c.toNat,by omega⟩
 have hk:k<x.cols.length:=by omega
 obtain ⟨u,hu⟩:∃ u,u=x.cols[k]:=⟨_,rfl⟩
 have hgi:∀ h,x.cols[k]'h=u:=fun _=>hu.symm
 have hn:nulT x k=u.b:=by unfold nulT; rw [Int.toNat_natCast,List.getElem?_eq_getElem hk,hgi]; rfl
 rw [hn]
 simp [Tb.c,hk,hgi,Col.c]
 all_goals exact gz
theorem s_nulI (x:Tb) (l:List Int) (hl:l.length≤1000) (hr:∀ c∈l,0≤c∧c<x.cols.length):Cf En 126 [.d (.sl (ints l)),.clo 241 [.ptr 1000000 0 0]] [.var (x.c.map AV.d)] (.d (.int .i64 (fidx (nulT x) l 0))) [.var (x.c.map AV.d)]:=by
 refine cf_intro mix (fn:=Tryz.f126) (by kernel_rfl) rfl (by kernel_rfl) (by decide) (by simp) ?_
 simp
 (repeat' (first|contradiction|exact .ok|apply And.intro|intro _|(refine gc (fun h=>?_) (fun h=>?_)<;>(have h':=h;(try simp at h');first|done|simp[h,h']|simp))))
 refine aloopT mix (by decide) (fun i:Nat=>{ s:=mkS [(0,.d (.sl (ints l))),(1,.clo 241 [.ptr 1000000 0 0]),(7,.d (.int .i64 l.length)),(8,.d (.int .i64 i))],b:=mkB [(1000000,1000000,.var (x.c.map AV.d))] }) (fun i=>i≤l.length∧fidx (nulT x) (l.drop i) i=fidx (nulT x) l 0) (fun i=>l.length - i) 0 (by simp) (sub_mk _ [(1000000,1000000,_)] ⟨by simp,by simp,by simp [renOf,Blk.live,Tb.c],base1⟩ (by simp [renOf])) ?_
 rintro i ⟨hi,hf⟩
 by_cases hlt:i<l.length
 ·rw [fidx_drop hlt] at hf
  obtain ⟨u,hu⟩:∃ u,u=l[i]:=⟨_,rfl⟩
  have hg:=ints_get hlt
  have hgi:∀ h,l[i]'h=u:=fun _=>hu.symm
  have hru:=hr u (by rw [hu]; exact List.getElem_mem hlt)
  rw [← hu] at hf hg
  have hw:=wrap_in (n:=(i:Int)+1) (by omega) (by omega)
  simp [hlt,hgi,hg]
  (repeat' (first|contradiction|exact .ok|apply And.intro|intro _|(refine gc (fun h=>?_) (fun h=>?_)<;>(have h':=h;(try simp at h');first|done|simp[h,h']|simp))))
  refine acallT_hand [1000000] (s_nul1 x u hru) (by simp) (by simp) (by simp) (by simp [Tb.c]) (by simp) ?_
  cases he:nulT x u
  ·rw [he] at hf
   simp [he]
   (repeat' (first|contradiction|exact .ok|apply And.intro|intro _|(refine gc (fun h=>?_) (fun h=>?_)<;>(have h':=h;(try simp at h');first|done|simp[h,h',he]|simp[he]))))
   refine ⟨i+1,⟨by omega,by simpa using hf⟩,?_,by simp; omega⟩
   exact sub_mk _ [(1000000,1000000,_)] ⟨by simp,by simp,by simp [renOf,Blk.live,Tb.c],base1⟩ (by simp [renOf,hw])
  ·rw [he] at hf
   simp only [if_true] at hf
   simp [he,← hf,Tb.c]
   (repeat' (first|contradiction|exact .ok|apply And.intro|intro _|(refine gc (fun h=>?_) (fun h=>?_)<;>(have h':=h;(try simp at h');first|done|simp[h,h',he]|simp[he]))))
 obtain rfl:i=l.length:=by omega
 rw [List.drop_length,fidx] at hf
 simp [← hf,Tb.c]
 all_goals exact gz
theorem s_nulC (x:Tb) (l:List Int) (hl:l.length≤1000) (hr:∀ c∈l,0≤c∧c<x.cols.length):Cf En 83 [.d (.sl (ints l)),.clo 241 [.ptr 1000000 0 0]] [.var (x.c.map AV.d)] (.d (.bool (l.any (nulT x)))) [.var (x.c.map AV.d)]:=by
 refine cf_intro mix (fn:=Tryz.f83) (by kernel_rfl) rfl (by kernel_rfl) (by decide) (by simp) ?_
 have h:=fidx_any (p:=nulT x) (l:=l) (i:=0)
 simp
 (repeat' (first|contradiction|exact .ok|apply And.intro|intro _|(refine gc (fun h=>?_) (fun h=>?_)<;>(have h':=h;(try simp at h');first|done|simp[h,h']|simp))))
 refine acallT_hand [1000000] (s_nulI x l hl hr) (by simp) (by simp) (by simp) (by simp [Tb.c]) (by simp) ?_
 simp [h,Tb.c]
 all_goals exact gz
theorem s_cloneU (l:List (List Int)) (hl:l.length≤1000):Cf En 242 [.d (.sl (l.map intsD))] [] (.ref 1000000 0 l.length 1) [.arr 22 1 (l.map intsD) false]:=by
 refine cf_introS mix (fn:=Tryz.f242) (by kernel_rfl) rfl (by kernel_rfl) (by decide) (by simp) ?_
 cases l with
 | nil =>
   simp
   (repeat' (first|contradiction|exact .ok|apply And.intro|intro _|(refine gc (fun h=>?_) (fun h=>?_)<;>(have h':=h;(try simp at h');first|done|simp[h,h']|simp))))
   ·refine EndsS.mk _ (sub_nil (i:=2) (m:=9) (ety:=22) (sz:=1) (by simp) ?_ (by decide) (by decide)) ?_
    ·simp
    ·exact ⟨_,[(1000000,9,.arr 22 1 [] false)],by simp; rfl,⟨by simp,by simp,by simp [renOf,Blk.live],by simp⟩,by simp [List.zipIdx,firstName_eq],by simp [renOf]⟩
   ·refine EndsS.mk _ (.refl _ _ _ _) ?_
    exact ⟨_,[(1000000,7,.arr 22 1 [] false)],by simp; rfl,⟨by simp,by simp,by simp [renOf,Blk.live],by simp⟩,by simp [List.zipIdx,firstName_eq],by simp [renOf]⟩
 | cons a l =>
   have hs:=szs (l.length+1) (by simp at hl; omega) 24 (by decide)
   have hs2:=szs l.length (by simp at hl; omega) 24 (by decide)
   simp [hs,hs2,intsD]
   (repeat' (first|contradiction|exact .ok|apply And.intro|intro _|(refine gc (fun h=>?_) (fun h=>?_)<;>(have h':=h;(try simp at h');first|done|simp[h,h']|simp))))
   refine EndsS.mk _ (.refl _ _ _ _) ?_
   exact ⟨_,[(1000000,7,.arr 22 1 ((a::l).map intsD) false)],by simp; rfl,⟨by simp,by simp,by simp [renOf,Blk.live,intsD],by simp⟩,by simp [List.zipIdx,firstName_eq]; rfl,by simp [renOf]⟩
theorem keys_drop {x:Tb} {l:List (List Int)} {i:Nat} (h:i<l.length):scanE (fun _=>keyE x) (l.drop i) i=if keyE x l[i] ≠ 0 then keyE x l[i] else scanE (fun _=>keyE x) (l.drop (i+1)) (i+1):=scan_drop h
def keyLs (x:Tb) (j:Nat):List (List Int):=x.un++(x.fk.take j).map Fk.cols
theorem keyLs_len {x:Tb} {j:Nat} (h:j≤x.fk.length):(keyLs x j).length=x.un.length+j:=by
 unfold keyLs; simp; omega
theorem keyLs_zero (x:Tb):keyLs x 0=x.un:=by simp [keyLs]
theorem keyLs_full (x:Tb):keyLs x x.fk.length=x.un++x.fk.map Fk.cols:=by simp [keyLs]
theorem keyLs_succ {x:Tb} {j:Nat} (h:j<x.fk.length):keyLs x (j+1)=keyLs x j++[x.fk[j].cols]:=by unfold keyLs; rw [take_snoc h,List.map_append,List.append_assoc]; rfl
theorem s_keys (x:Tb) (hx:x.ok) (hu:∀ l∈x.un,l.length≤1000):Cf En 209 [x.a] [] (.d (.int .i64 (keysE x))) []:=by
 refine cf_intro mix (fn:=Tryz.f209) (by kernel_rfl) rfl (by kernel_rfl) (by decide) (by simp) ?_
 have hpl:=hx.pr
 have hfl:=hx.fk
 have hul:=hx.un
 simp [Tb.a,Tb.c]
 (repeat' (first|contradiction|exact .ok|apply And.intro|intro _|(refine gc (fun h=>?_) (fun h=>?_)<;>(have h':=h;(try simp at h');first|done|simp[h,h']|simp))))
 refine acallT_plain (s_key x hx x.pr hpl) (by simp [Tb.a,Tb.c]) ?_
 by_cases hk:keyE x x.pr=0
 rotate_left
 ·have hr:keysE x=keyE x x.pr:=by unfold keysE; rw [then_bad hk]
  rw [hr]
  simp [hk]
  (repeat' (first|contradiction|exact .ok|apply And.intro|intro _|(refine gc (fun h=>?_) (fun h=>?_)<;>(have h':=h;(try simp at h');first|done|simp[h,h',hk]|simp[hk]))))
 have hin:∀ k∈x.pr,0≤k∧k<x.cols.length:=by
  unfold keyE at hk
  split at hk
  ·rename_i hb; exact listB_mem hb
  ·cases hk
 simp [hk]
 (repeat' (first|contradiction|exact .ok|apply And.intro|intro _|(refine gc (fun h=>?_) (fun h=>?_)<;>(have h':=h;(try simp at h');first|done|simp[h,h']|simp))))
 refine acallT_hand [1] (s_nulC x x.pr hpl hin) (by simp) (by simp) (by simp) (by simp [Tb.c]) (by simp) ?_
 cases hn:x.pr.any (nulT x) with
 | true =>
   have hr:keysE x=4:=by unfold keysE; rw [hk,then_ok,hn]; rfl
   rw [hr]
   simp [Tb.c]
   all_goals exact gz
 | false =>
   have hr:keysE x=scanE (fun _=>keyE x) (x.un++x.fk.map Fk.cols) 0:=by unfold keysE; rw [hk,then_ok,hn]; exact then_ok
   rw [hr]
   clear hr hn hk hin
   simp [Tb.c]
   (repeat' (first|contradiction|exact .ok|apply And.intro|intro _|(refine gc (fun h=>?_) (fun h=>?_)<;>(have h':=h;(try simp at h');first|done|simp[h,h']|simp))))
   refine acallT_new [] (s_cloneU x.un hul) rfl (by simp) (by simp) (by decide) (by simp) (by simp) (by simp) ?_
   simp
   (repeat' (first|contradiction|exact .ok|apply And.intro|intro _|(refine gc (fun h=>?_) (fun h=>?_)<;>(have h':=h;(try simp at h');first|done|simp[h,h']|simp))))
   refine aloopT mix (by decide) (fun j:Nat=>{ s:=mkS [(1,.ptr 1 0 0),(4,.ref 900 0 (x.un.length+j) 1),(25,.d (.sl (x.fk.map Fk.c))),(26,.d (.int .i64 x.fk.length)),(27,.d (.int .i64 j))],b:=mkB [(1,1,.var (x.c.map AV.d)),(900,900,.arr 22 1 ((keyLs x j).map intsD) false)] }) (fun j=>j≤x.fk.length) (fun j=>x.fk.length - j) 0 (by simp)
    (sub_mk _ [(1,1,_),(900,24000,_)] ⟨by simp,by simp,by simp [renOf,Blk.live,Tb.c,keyLs_zero],by simp⟩ (by simp [renOf])) ?_
   intro j hj
   have hLl:=keyLs_len hj
   by_cases hjl:j<x.fk.length
   ·obtain ⟨f,hf⟩:∃ f,f=x.fk[j]:=⟨_,rfl⟩
    have hgf:∀ h,x.fk[j]'h=f:=fun _=>hf.symm
    have hwj:=wrap_in (n:=(j:Int)+1) (by omega) (by omega)
    have hnx:=keyLs_succ hjl
    rw [← hf] at hnx
    generalize hL:keyLs x j=L at *
    have htk:(L.map intsD).take (x.un.length+j)=L.map intsD:=List.take_of_length_le (by simp [hLl])
    simp [hjl,hgf,Fk.c,hLl,htk,szs (x.un.length+j) (by omega) 24 (by decide),szs (x.un.length+j+1) (by omega) 24 (by decide)]
    (repeat' (first|contradiction|exact .ok|apply And.intro|intro _|(refine gc (fun h=>?_) (fun h=>?_)<;>(have h':=h;(try simp at h');first|done|simp[h,h']|simp))))
    refine ⟨j+1,by omega,?_,by simp; omega⟩
    exact sub_mk _ [(1,1,_),(900,35,_)] ⟨by simp,by simp,by simp [renOf,Blk.live,Tb.c,hnx,intsD],by simp⟩ (by simp [renOf,hwj]; try omega)
   obtain rfl:j=x.fk.length:=by omega
   rw [keyLs_full] at *
   generalize hL:x.un++x.fk.map Fk.cols=L at *
   have hLm:∀ l∈L,l.length≤1000:=by
    intro l hl
    rw [← hL] at hl
    rcases List.mem_append.1 hl with h | h
    ·exact hu l h
    ·obtain ⟨f,hf,rfl⟩:=List.mem_map.1 h
     exact hx.fkc f hf
   simp
   (repeat' (first|contradiction|exact .ok|apply And.intro|intro _|(refine gc (fun h=>?_) (fun h=>?_)<;>(have h':=h;(try simp at h');first|done|simp[h,h']|simp))))
   refine aloopT mix (by decide) (fun j:Nat=>{ s:=mkS [(1,.ptr 1 0 0),(37,.ref 900 0 L.length 1),(38,.d (.int .i64 L.length)),(39,.d (.int .i64 j))],b:=mkB [(1,1,.var (x.c.map AV.d)),(900,900,.arr 22 1 (L.map intsD) false)] }) (fun j=>j≤L.length∧scanE (fun _=>keyE x) (L.drop j) j=scanE (fun _=>keyE x) L 0) (fun j=>L.length - j) 0 (by simp)
    (sub_mk _ [(1,1,_),(900,900,_)] ⟨by simp,by simp,by simp [renOf,Blk.live,Tb.c],by simp⟩ (by simp [renOf,hLl])) ?_
   rintro j ⟨hj,hs⟩
   by_cases hjl:j<L.length
   ·rw [keys_drop hjl] at hs
    obtain ⟨l,hl⟩:∃ l,l=L[j]:=⟨_,rfl⟩
    have hgf:∀ h,L[j]'h=l:=fun _=>hl.symm
    rw [← hl] at hs
    have hwj:=wrap_in (n:=(j:Int)+1) (by omega) (by omega)
    simp [hjl,hgf,intsD,Tb.c]
    (repeat' (first|contradiction|exact .ok|apply And.intro|intro _|(refine gc (fun h=>?_) (fun h=>?_)<;>(have h':=h;(try simp at h');first|done|simp[h,h']|simp))))
    refine acallT_plain (s_key x hx l (hLm l (by rw [hl]; exact List.getElem_mem hjl))) (by simp [Tb.a,Tb.c]) ?_
    by_cases hk:keyE x l=0
    ·rw [if_neg (by simpa using hk)] at hs
     simp [hk]
     (repeat' (first|contradiction|exact .ok|apply And.intro|intro _|(refine gc (fun h=>?_) (fun h=>?_)<;>(have h':=h;(try simp at h');first|done|simp[h,h']|simp))))
     refine ⟨j+1,⟨by omega,hs⟩,?_,by simp; omega⟩
     exact sub_mk _ [(1,1,_),(900,900,_)] ⟨by simp,by simp,by simp [renOf,Blk.live,Tb.c],by simp⟩ (by simp [renOf,hwj])
    ·rw [if_pos hk] at hs
     rw [← hs]
     simp [hk]
     (repeat' (first|contradiction|exact .ok|apply And.intro|intro _|(refine gc (fun h=>?_) (fun h=>?_)<;>(have h':=h;(try simp at h');first|done|simp[h,h',hk]|simp[hk]))))
   obtain rfl:j=L.length:=by omega
   rw [scan_end (Nat.le_refl _)] at hs
   rw [← hs]
   simp
   all_goals exact gz
end Go.Proofs.Tryz
