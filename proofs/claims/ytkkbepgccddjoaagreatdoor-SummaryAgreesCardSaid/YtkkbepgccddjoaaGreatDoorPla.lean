import Derived.Test.YtkkbepgccddjoaaGreatDoorATgt
import Derived.Test.YtkkbepgccddjoaaGreatDoorSvr
set_option linter.all false
namespace Go.Proofs.Tryz
open Go.Ab
set_option maxRecDepth 100000
set_option maxHeartbeats 4000000
theorem f_free1 (f:Fk) (hf:f.cols.length≤1000) (c:Int):Cf En 216 [f.a,.ptr 1000000 0 0] [.var [.d (.int .i64 c)]] (.d (.bool (f.cols.contains c))) [.var [.d (.int .i64 c)]]:=by
 refine cf_intro mix (fn:=Tryz.f216) (by kernel_rfl) rfl (by kernel_rfl) (by decide) (by simp) ?_
 simp [Fk.a,Fk.c]
 (repeat' (first|contradiction|exact .ok|apply And.intro|intro _|(refine gc (fun h=>?_) (fun h=>?_)<;>(have h':=h;(try simp at h');first|done|simp[h,h']|simp))))
 refine acallT_plain (i_contains f.cols hf c) (by simp) ?_
 simp
 all_goals exact gz
theorem f_freeI (l:List Fk) (hl:l.length≤1000) (hf:∀ f∈l,f.cols.length≤1000) (c:Int):Cf En 217 [.d (.sl (l.map Fk.c)),.clo 216 [.ptr 1000000 0 0]] [.var [.d (.int .i64 c)]] (.d (.int .i64 (fidx (fun f:Fk=>f.cols.contains c) l 0))) [.var [.d (.int .i64 c)]]:=by
 refine cf_intro mix (fn:=Tryz.f217) (by kernel_rfl) rfl (by kernel_rfl) (by decide) (by simp) ?_
 generalize hF:fidx (fun f:Fk=>f.cols.contains c) l 0=F
 simp
 (repeat' (first|contradiction|exact .ok|apply And.intro|intro _|(refine gc (fun h=>?_) (fun h=>?_)<;>(have h':=h;(try simp at h');first|done|simp[h,h']|simp))))
 refine aloopT mix (by decide) (fun i:Nat=>{ s:=mkS [(0,.d (.sl (l.map Fk.c))),(1,.clo 216 [.ptr 1000000 0 0]),(7,.d (.int .i64 l.length)),(8,.d (.int .i64 i))],b:=mkB [(1000000,1000000,.var [.d (.int .i64 c)])] }) (fun i=>i≤l.length∧fidx (fun f:Fk=>f.cols.contains c) (l.drop i) i=F) (fun i=>l.length - i) 0 ⟨by simp,hF⟩ (sub_mk _ [(1000000,1000000,_)] ⟨by simp,by simp,by simp [renOf,Blk.live],base1⟩ (by simp [renOf])) ?_
 rintro i ⟨hi,hg⟩
 by_cases hlt:i<l.length
 ·rw [fidx_drop hlt] at hg
  obtain ⟨u,hu⟩:∃ u,u=l[i]:=⟨_,rfl⟩
  have hgi:∀ h,l[i]'h=u:=fun _=>hu.symm
  have hru:=hf u (by rw [hu]; exact List.getElem_mem hlt)
  rw [← hu] at hg
  have hw:=wrap_in (n:=(i:Int)+1) (by omega) (by omega)
  simp [hlt,hgi,Fk.c]
  (repeat' (first|contradiction|exact .ok|apply And.intro|intro _|(refine gc (fun h=>?_) (fun h=>?_)<;>(have h':=h;(try simp at h');first|done|simp[h,h']|simp))))
  refine acallT_hand [1000000] (f_free1 u hru c) (by simp) (by simp) (by simp) (by simp) (by simp [Fk.a,Fk.c]) ?_
  cases he:u.cols.contains c
  ·rw [he] at hg
   simp [he]
   (repeat' (first|contradiction|exact .ok|apply And.intro|intro _|(refine gc (fun h=>?_) (fun h=>?_)<;>(have h':=h;(try simp at h');first|done|simp[h,h',he]|simp[he]))))
   refine ⟨i+1,⟨by omega,by simpa using hg⟩,?_,by simp; omega⟩
   exact sub_mk _ [(1000000,1000000,_)] ⟨by simp,by simp,by simp [renOf,Blk.live],base1⟩ (by simp [renOf,hw])
  ·rw [he] at hg
   simp only [if_true] at hg
   simp [he,← hg]
   (repeat' (first|contradiction|exact .ok|apply And.intro|intro _|(refine gc (fun h=>?_) (fun h=>?_)<;>(have h':=h;(try simp at h');first|done|simp[h,h',he]|simp[he]))))
 obtain rfl:i=l.length:=by omega
 rw [List.drop_length,fidx] at hg
 simp [← hg]
 all_goals exact gz
theorem f_freeC (l:List Fk) (hl:l.length≤1000) (hf:∀ f∈l,f.cols.length≤1000) (c:Int):Cf En 166 [.d (.sl (l.map Fk.c)),.clo 216 [.ptr 1000000 0 0]] [.var [.d (.int .i64 c)]] (.d (.bool (l.any fun f=>f.cols.contains c))) [.var [.d (.int .i64 c)]]:=by
 refine cf_intro mix (fn:=Tryz.f166) (by kernel_rfl) rfl (by kernel_rfl) (by decide) (by simp) ?_
 have h:=fidx_any (p:=fun f:Fk=>f.cols.contains c) (l:=l) (i:=0)
 generalize hA:(l.any fun f=>f.cols.contains c)=A at *
 generalize hF:fidx (fun f:Fk=>f.cols.contains c) l 0=F at *
 have hc:=f_freeI l hl hf c
 rw [hF] at hc
 simp
 (repeat' (first|contradiction|exact .ok|apply And.intro|intro _|(refine gc (fun h=>?_) (fun h=>?_)<;>(have h':=h;(try simp at h');first|done|simp[h,h']|simp))))
 refine acallT_hand [1000000] hc (by simp) (by simp) (by simp) (by simp) (by simp) ?_
 simp [h]
 all_goals exact gz
theorem f_free (x:Tb) (hx:x.ok) (c:Int):Cf En 164 [x.a,.d (.int .i64 c)] [] (.d (.bool (!keyT x c))) []:=by
 refine cf_intro mix (fn:=Tryz.f164) (by kernel_rfl) rfl (by kernel_rfl) (by decide) (by simp) ?_
 have hk:keyT x c=(x.pr.contains c||x.fk.any fun f=>f.cols.contains c):=rfl
 rw [hk]
 have hc:=f_freeC x.fk hx.fk hx.fkc c
 generalize (x.fk.any fun f=>f.cols.contains c)=A at *
 have hp:=i_contains x.pr hx.pr c
 generalize x.pr.contains c=B at *
 simp [Tb.a,Tb.c]
 (repeat' (first|contradiction|exact .ok|apply And.intro|intro _|(refine gc (fun h=>?_) (fun h=>?_)<;>(have h':=h;(try simp at h');first|done|simp[h,h']|simp))))
 refine acallT_plain hp (by simp) ?_
 cases B with
 | true =>
   simp
   all_goals exact gz
 | false =>
   simp [Tb.c]
   (repeat' (first|contradiction|exact .ok|apply And.intro|intro _|(refine gc (fun h=>?_) (fun h=>?_)<;>(have h':=h;(try simp at h');first|done|simp[h,h']|simp))))
   refine acallT_hand [3] hc (by simp) (by simp) (by simp) (by simp) (by simp) ?_
   simp
   all_goals exact gz
theorem f_out (x:Tb) (hx:x.ok) (c:Int):Cf En 163 [.d (.int .i64 c),.ptr 1000000 0 0] [.var (x.c.map AV.d)] (.d (.bool (keyT x c))) [.var (x.c.map AV.d)]:=by
 refine cf_intro mix (fn:=Tryz.f163) (by kernel_rfl) rfl (by kernel_rfl) (by decide) (by simp) ?_
 simp [Tb.c]
 (repeat' (first|contradiction|exact .ok|apply And.intro|intro _|(refine gc (fun h=>?_) (fun h=>?_)<;>(have h':=h;(try simp at h');first|done|simp[h,h']|simp))))
 refine acallT_plain (f_free x hx c) (by simp [Tb.a,Tb.c]) ?_
 simp [Tb.c]
 all_goals exact gz
theorem f_outI (x:Tb) (hx:x.ok) (l:List Int) (hl:l.length≤9000000):Cf En 126 [.d (.sl (ints l)),.clo 163 [.ptr 1000000 0 0]] [.var (x.c.map AV.d)] (.d (.int .i64 (fidx (keyT x) l 0))) [.var (x.c.map AV.d)]:=by
 refine cf_intro mix (fn:=Tryz.f126) (by kernel_rfl) rfl (by kernel_rfl) (by decide) (by simp) ?_
 simp
 (repeat' (first|contradiction|exact .ok|apply And.intro|intro _|(refine gc (fun h=>?_) (fun h=>?_)<;>(have h':=h;(try simp at h');first|done|simp[h,h']|simp))))
 refine aloopT mix (by decide) (fun i:Nat=>{ s:=mkS [(0,.d (.sl (ints l))),(1,.clo 163 [.ptr 1000000 0 0]),(7,.d (.int .i64 l.length)),(8,.d (.int .i64 i))],b:=mkB [(1000000,1000000,.var (x.c.map AV.d))] }) (fun i=>i≤l.length∧fidx (keyT x) (l.drop i) i=fidx (keyT x) l 0) (fun i=>l.length - i) 0 (by simp) (sub_mk _ [(1000000,1000000,_)] ⟨by simp,by simp,by simp [renOf,Blk.live,Tb.c],base1⟩ (by simp [renOf])) ?_
 rintro i ⟨hi,hf⟩
 by_cases hlt:i<l.length
 ·rw [fidx_drop hlt] at hf
  obtain ⟨u,hu⟩:∃ u,u=l[i]:=⟨_,rfl⟩
  have hg:=ints_get hlt
  have hgi:∀ h,l[i]'h=u:=fun _=>hu.symm
  rw [← hu] at hf hg
  have hw:=wrap_in (n:=(i:Int)+1) (by omega) (by omega)
  simp [hlt,hgi,hg]
  (repeat' (first|contradiction|exact .ok|apply And.intro|intro _|(refine gc (fun h=>?_) (fun h=>?_)<;>(have h':=h;(try simp at h');first|done|simp[h,h']|simp))))
  refine acallT_hand [1000000] (f_out x hx u) (by simp) (by simp) (by simp) (by simp [Tb.c]) (by simp) ?_
  cases he:keyT x u
  ·rw [he] at hf
   simp [he]
   (repeat' (first|contradiction|exact .ok|apply And.intro|intro _|(refine gc (fun h=>?_) (fun h=>?_)<;>(have h':=h;(try simp at h');first|done|simp[h,h',he]|simp[he]))))
   refine ⟨i+1,⟨by omega,by simpa using hf⟩,?_,by simp; omega⟩
   exact sub_mk _ [(1000000,1000000,_)] ⟨by simp,by simp,by simp [renOf,Blk.live,Tb.c],base1⟩ (by simp [renOf,hw])
  ·rw [he] at hf
   simp only [if_true] at hf
   simp [he,← hf,Tb.c]
   (repeat' (first|contradiction|exact .ok|apply And.intro|intro _|(refine gc (fun h=>?_) (fun h=>?_)<;>(have h':=h;(try simp at h');first|done|simp[h,h',he]|simp[he]))))
 obtain rfl:i=l.length:=by omega
 rw [List.drop_length,fidx] at hf
 simp [← hf,Tb.c]
 all_goals exact gz
theorem f_outC (x:Tb) (hx:x.ok) (l:List Int) (hl:l.length≤9000000):Cf En 83 [.d (.sl (ints l)),.clo 163 [.ptr 1000000 0 0]] [.var (x.c.map AV.d)] (.d (.bool (l.any (keyT x)))) [.var (x.c.map AV.d)]:=by
 refine cf_intro mix (fn:=Tryz.f83) (by kernel_rfl) rfl (by kernel_rfl) (by decide) (by simp) ?_
 have h:=fidx_any (p:=keyT x) (l:=l) (i:=0)
 simp
 (repeat' (first|contradiction|exact .ok|apply And.intro|intro _|(refine gc (fun h=>?_) (fun h=>?_)<;>(have h':=h;(try simp at h');first|done|simp[h,h']|simp))))
 refine acallT_hand [1000000] (f_outI x hx l hl) (by simp) (by simp) (by simp) (by simp [Tb.c]) (by simp) ?_
 simp [h,Tb.c]
 all_goals exact gz
structure ChOk (e:Ex):Prop where
 few:e.few 0=true
 nodes:e.nodes≤1048576
theorem nums_ints (l:List Int):nums l=.sl (ints l):=rfl
theorem cols_le (e:Ex) (h:ChOk e):e.cols.length≤9000000:=by
 have:=cols_len e
 have:=h.nodes
 omega
theorem f_chk (x:Tb) (hx:x.ok) (e:Ex) (he:ChOk e):Cf En 162 [e.a,.ptr 1000000 0 0] [.var (x.c.map AV.d)] (.d (.bool (e.cols.any (keyT x)))) [.var (x.c.map AV.d)]:=by
 refine cf_intro mix (fn:=Tryz.f162) (by kernel_rfl) rfl (by kernel_rfl) (by decide) (by simp) ?_
 have hc:=c_cols _ e (Nat.lt_succ_self _) 0 he.few he.nodes
 have hl:=cols_le e he
 generalize e.cols=l at *
 rw [nums_ints] at hc
 rcases e with ⟨o,c,n,t,g,ks⟩
 simp [Ex.a,Ex.c]
 (repeat' (first|contradiction|exact .ok|apply And.intro|intro _|(refine gc (fun h=>?_) (fun h=>?_)<;>(have h':=h;(try simp at h');first|done|simp[h,h']|simp))))
 refine acallT_plain hc (by simp [Ex.a,Ex.c]) ?_
 simp
 (repeat' (first|contradiction|exact .ok|apply And.intro|intro _|(refine gc (fun h=>?_) (fun h=>?_)<;>(have h':=h;(try simp at h');first|done|simp[h,h']|simp))))
 refine acallT_hand [1000000] (f_outC x hx l hl) (by simp) (by simp) (by simp) (by simp [Tb.c]) (by simp) ?_
 simp [Tb.c]
 all_goals exact gz
theorem f_chkI (x:Tb) (hx:x.ok) (l:List Ex) (hl:l.length≤1000) (hE:∀ e∈l,ChOk e):Cf En 143 [.d (.sl (l.map Ex.c)),.clo 162 [.ptr 1000000 0 0]] [.var (x.c.map AV.d)] (.d (.int .i64 (fidx (fun e:Ex=>e.cols.any (keyT x)) l 0))) [.var (x.c.map AV.d)]:=by
 refine cf_intro mix (fn:=Tryz.f143) (by kernel_rfl) rfl (by kernel_rfl) (by decide) (by simp) ?_
 simp
 (repeat' (first|contradiction|exact .ok|apply And.intro|intro _|(refine gc (fun h=>?_) (fun h=>?_)<;>(have h':=h;(try simp at h');first|done|simp[h,h']|simp))))
 refine aloopT mix (by decide) (fun i:Nat=>{ s:=mkS [(0,.d (.sl (l.map Ex.c))),(1,.clo 162 [.ptr 1000000 0 0]),(7,.d (.int .i64 l.length)),(8,.d (.int .i64 i))],b:=mkB [(1000000,1000000,.var (x.c.map AV.d))] }) (fun i=>i≤l.length∧fidx (fun e:Ex=>e.cols.any (keyT x)) (l.drop i) i=fidx (fun e:Ex=>e.cols.any (keyT x)) l 0) (fun i=>l.length - i) 0 (by simp) (sub_mk _ [(1000000,1000000,_)] ⟨by simp,by simp,by simp [renOf,Blk.live,Tb.c],base1⟩ (by simp [renOf])) ?_
 rintro i ⟨hi,hg⟩
 by_cases hlt:i<l.length
 ·rw [fidx_drop hlt] at hg
  obtain ⟨u,hu⟩:∃ u,u=l[i]:=⟨_,rfl⟩
  have hgi:∀ h,l[i]'h=u:=fun _=>hu.symm
  have hc:=f_chk x hx u (hE u (by rw [hu]; exact List.getElem_mem hlt))
  rw [← hu] at hg
  generalize (u.cols.any (keyT x))=B at *
  have hw:=wrap_in (n:=(i:Int)+1) (by omega) (by omega)
  rcases u with ⟨o,cc,n,t,g,ks⟩
  simp [hlt,hgi,Ex.c]
  (repeat' (first|contradiction|exact .ok|apply And.intro|intro _|(refine gc (fun h=>?_) (fun h=>?_)<;>(have h':=h;(try simp at h');first|done|simp[h,h']|simp))))
  refine acallT_hand [1000000] hc (by simp) (by simp) (by simp) (by simp [Tb.c]) (by simp [Ex.a,Ex.c]) ?_
  cases B
  ·simp
   (repeat' (first|contradiction|exact .ok|apply And.intro|intro _|(refine gc (fun h=>?_) (fun h=>?_)<;>(have h':=h;(try simp at h');first|done|simp[h,h']|simp))))
   refine ⟨i+1,⟨by omega,by simpa using hg⟩,?_,by simp; omega⟩
   exact sub_mk _ [(1000000,1000000,_)] ⟨by simp,by simp,by simp [renOf,Blk.live,Tb.c],base1⟩ (by simp [renOf,hw])
  ·simp only [if_true] at hg
   simp [← hg,Tb.c]
   all_goals exact gz
 obtain rfl:i=l.length:=by omega
 rw [List.drop_length,fidx] at hg
 simp [← hg,Tb.c]
 all_goals exact gz
theorem f_chkC (x:Tb) (hx:x.ok) (l:List Ex) (hl:l.length≤1000) (hE:∀ e∈l,ChOk e):Cf En 95 [.d (.sl (l.map Ex.c)),.clo 162 [.ptr 1000000 0 0]] [.var (x.c.map AV.d)] (.d (.bool (l.any fun e=>e.cols.any (keyT x)))) [.var (x.c.map AV.d)]:=by
 refine cf_intro mix (fn:=Tryz.f95) (by kernel_rfl) rfl (by kernel_rfl) (by decide) (by simp) ?_
 have h:=fidx_any (p:=fun e:Ex=>e.cols.any (keyT x)) (l:=l) (i:=0)
 have hc:=f_chkI x hx l hl hE
 generalize (l.any fun e=>e.cols.any (keyT x))=A at *
 generalize fidx (fun e:Ex=>e.cols.any (keyT x)) l 0=F at *
 simp
 (repeat' (first|contradiction|exact .ok|apply And.intro|intro _|(refine gc (fun h=>?_) (fun h=>?_)<;>(have h':=h;(try simp at h');first|done|simp[h,h']|simp))))
 refine acallT_hand [1000000] hc (by simp) (by simp) (by simp) (by simp [Tb.c]) (by simp) ?_
 simp [h,Tb.c]
 all_goals exact gz
end Go.Proofs.Tryz
