import Derived.Test.YtkkbepgccddjoaaGreatDoorARsm
import Derived.Test.YtkkbepgccddjoaaGreatDoorATgt
import Derived.Test.YtkkbepgccddjoaaGreatDoorANamp
import Derived.Test.YtkkbepgccddjoaaGreatDoorAShy
set_option linter.all false
namespace Go.Proofs.Tryz
open Go.Ab
set_option maxRecDepth 100000
set_option maxHeartbeats 8000000
theorem q_noneI (row:List V):Cf En 143 [.d (.sl []),.clo 117 [.ptr 1000000 0 0]] [.var [.d (.sl (row.map V.c))]] (.d (.int .i64 (-1))) [.var [.d (.sl (row.map V.c))]]:=by
 refine cf_intro mix (fn:=Tryz.f143) (by kernel_rfl) rfl (by kernel_rfl) (by decide) (by simp) ?_
 simp
 (repeat' (first|contradiction|exact .ok|apply And.intro|intro _|(refine gc (fun h=>?_) (fun h=>?_)<;>(have h':=h;(try simp at h');first|done|simp[h,h']|simp))))
 refine aloopT mix (by decide) (fun _:Unit=>{ s:=mkS [(0,.d (.sl [])),(1,.clo 117 [.ptr 1000000 0 0]),(7,.d (.int .i64 0)),(8,.d (.int .i64 0))],b:=mkB [(1000000,1000000,.var [.d (.sl (row.map V.c))])] }) (fun _=>True) (fun _=>0) () trivial (sub_mk _ [(1000000,1000000,_)] ⟨by simp,by simp,by simp [renOf,Blk.live],base1⟩ (by simp [renOf])) ?_
 intro _ _
 simp
 all_goals exact gz
theorem q_noneC (row:List V):Cf En 95 [.d (.sl []),.clo 117 [.ptr 1000000 0 0]] [.var [.d (.sl (row.map V.c))]] (.d (.bool false)) [.var [.d (.sl (row.map V.c))]]:=by
 refine cf_intro mix (fn:=Tryz.f95) (by kernel_rfl) rfl (by kernel_rfl) (by decide) (by simp) ?_
 simp
 (repeat' (first|contradiction|exact .ok|apply And.intro|intro _|(refine gc (fun h=>?_) (fun h=>?_)<;>(have h':=h;(try simp at h');first|done|simp[h,h']|simp))))
 refine acallT_hand [1000000] (q_noneI row) (by simp) (by simp) (by simp) (by simp) (by simp) ?_
 simp
 all_goals exact gz
structure BlkOk (S:List Tb) (X:List (List Bk)) (x:Tb) (b:Bk):Prop where
 n:1≤b.n
 v:b.v.length=x.cols.length
 p:b.p.length=x.fk.length
 val:∀ (c:Nat) (v:V) (u:Col),b.v[c]?=some v→x.cols[c]?=some u→v.valid=true∧(v.k=u.t∨(u.b=true∧v.k=0))
 par:∀ (f:Nat) (g:Fk) (z:Int),x.fk[f]?=some g→b.p[f]?=some z→∃ (to:Nat) (l:List Bk) (i:Nat) (q:Bk),tgt S g=to∧X[to]?=some l∧z=i∧l[i]?=some q∧1≤q.n
def blF (S:List Tb) (X:List (List Bk)) (x:Tb) (b:Bk) (k:Nat) (l:List (Nat×AV)):St :=
 { s:=mkS ([(2,.d (.int .i64 k)),(4,.ptr 4 0 0),(5,.ptr 5 0 0),(7,.ptr 7 0 0),(9,.ptr 9 0 0)]++l),b:=mkB [(4,4,.var [.d (.sl (S.map Tb.c))]),(5,5,.var [.d (.sl (X.map bkD))]),(7,7,.var (b.c.map AV.d)),(9,9,.var (x.c.map AV.d))] }
theorem q_block (S:List Tb) (hl:S.length≤1000) (hS:∀ x∈S,x.ok) (X:List (List Bk)) (hX:X.length≤1000) (k:Nat) (x:Tb) (hk:S[k]?=some x) (hch:x.ch=[]) (hut:∀ u∈x.cols,u.t=1∨u.t=2∨u.t=3) (b:Bk) (h:BlkOk S X x b) :
  Cf En 72 [schA S,smyA X,.d (.int .i64 k),.agg (b.c.map AV.d)] [] (.d (.int .i64 0)) []:=by
 refine cf_intro mix (fn:=Tryz.f72) (by kernel_rfl) rfl (by kernel_rfl) (by decide) (by simp) ?_
 obtain ⟨hkl,hgx0⟩:=List.getElem?_eq_some_iff.1 hk
 have hgx:∀ h,S[k]'h=x:=fun _=>hgx0
 have hxo:=hS x (by rw [← hgx0]; exact List.getElem_mem hkl)
 have hvl:=h.v
 have hpl:=h.p
 have hcl:=hxo.cols
 have hfl:=hxo.fk
 have hvi:(b.v.length:Int)=x.cols.length:=by omega
 have hpi:(b.p.length:Int)=x.fk.length:=by omega
 simp [schA,smyA,hkl,hgx,Tb.c,Bk.c,hvl,hpl]
 (repeat' (first|contradiction|exact .ok|apply And.intro|intro _|(refine gc (fun h=>?_) (fun h=>?_)<;>(have h':=h;(try simp at h');first|done|simp[h,h',hkl,hgx,Tb.c,Bk.c,hvl,hpl]|simp[hkl,hgx,Tb.c,Bk.c,hvl,hpl]))))
 refine aloopT mix (by decide) (fun c:Nat=>blF S X x b k [(41,.d (.sl (b.v.map V.c))),(42,.d (.int .i64 b.v.length)),(43,.d (.int .i64 c))]) (fun c=>c≤b.v.length) (fun c=>b.v.length - c) 0 (by simp)
  (sub_mk _ [(4,4,_),(5,5,_),(7,7,_),(9,9,_)] ⟨by simp,by simp,by simp [renOf,Blk.live,Tb.c,Bk.c],by simp⟩ (by simp [renOf,hvl])) ?_
 intro c hc
 by_cases hlt:c<b.v.length
 ·obtain ⟨v,hv⟩:∃ v,v=b.v[c]:=⟨_,rfl⟩
  have hgv:∀ h,b.v[c]'h=v:=fun _=>hv.symm
  have hcx:c<x.cols.length:=by omega
  obtain ⟨u,hu⟩:∃ u,u=x.cols[c]:=⟨_,rfl⟩
  have hgu:∀ h,x.cols[c]'h=u:=fun _=>hu.symm
  obtain ⟨v1,v2⟩:=h.val c v u (by rw [List.getElem?_eq_getElem hlt,hv]) (by rw [List.getElem?_eq_getElem hcx,hu])
  have hu0:=hut u (by rw [hu]; exact List.getElem_mem hcx)
  have hke:=q_keyed x hxo c
  have hva:=v_valid v
  rw [v1] at hva
  have hw:=wrap_in (n:=(c:Int)+1) (by omega) (by omega)
  cases hK:keyT x c with
  | true =>
    rw [hK] at hke
    simp [blF,hlt,hgv,hcx,hgu,Tb.c,V.c,Col.c]
    (repeat' (first|contradiction|exact .ok|apply And.intro|intro _|(refine gc (fun h=>?_) (fun h=>?_)<;>(have h':=h;(try simp at h');first|done|simp[h,h']|simp))))
    refine acallT_plain hke (by simp [Tb.a,Tb.c]) ?_
    simp
    (repeat' (first|contradiction|exact .ok|apply And.intro|intro _|(refine gc (fun h=>?_) (fun h=>?_)<;>(have h':=h;(try simp at h');first|done|simp[h,h']|simp))))
    refine ⟨c+1,by omega,?_,by simp; omega⟩
    exact sub_mk _ [(4,4,_),(5,5,_),(7,7,_),(9,9,_)] ⟨by simp,by simp,by simp [renOf,Blk.live,Tb.c,Bk.c],by simp⟩ (by simp [renOf,hw])
  | false =>
    rw [hK] at hke
    simp [blF,hlt,hgv,hcx,hgu,Tb.c,V.c,Col.c]
    (repeat' (first|contradiction|exact .ok|apply And.intro|intro _|(refine gc (fun h=>?_) (fun h=>?_)<;>(have h':=h;(try simp at h');first|done|simp[h,h']|simp))))
    refine acallT_plain hke (by simp [Tb.a,Tb.c]) ?_
    simp
    (repeat' (first|contradiction|exact .ok|apply And.intro|intro _|(refine gc (fun h=>?_) (fun h=>?_)<;>(have h':=h;(try simp at h');first|done|simp[h,h']|simp))))
    refine acallT_plain hva (by simp [V.a]) ?_
    by_cases k0:v.k=0
    ·have hub:u.b=true:=by
      rcases v2 with e | e
      ·omega
      ·exact e.1
     simp [k0,hub]
     (repeat' (first|contradiction|exact .ok|apply And.intro|intro _|(refine gc (fun h=>?_) (fun h=>?_)<;>(have h':=h;(try simp at h');first|done|simp[h,h',k0,hub]|simp[k0,hub]))))
     refine ⟨c+1,by omega,?_,by simp; omega⟩
     exact sub_mk _ [(4,4,_),(5,5,_),(7,7,_),(9,9,_)] ⟨by simp,by simp,by simp [renOf,Blk.live,Tb.c,Bk.c],by simp⟩ (by simp [renOf,hw])
    ·have hkt:v.k=u.t:=by
      rcases v2 with e | e
      ·exact e
      ·exact absurd e.2 k0
     have hu00:¬ u.t=0:=by omega
     simp [hkt,hu00]
     (repeat' (first|contradiction|exact .ok|apply And.intro|intro _|(refine gc (fun h=>?_) (fun h=>?_)<;>(have h':=h;(try simp at h');first|done|simp[h,h',hkt,hu00]|simp[hkt,hu00]))))
     refine ⟨c+1,by omega,?_,by simp; omega⟩
     exact sub_mk _ [(4,4,_),(5,5,_),(7,7,_),(9,9,_)] ⟨by simp,by simp,by simp [renOf,Blk.live,Tb.c,Bk.c],by simp⟩ (by simp [renOf,hw])
 obtain rfl:c=b.v.length:=by omega
 simp [blF,Bk.c]
 (repeat' (first|contradiction|exact .ok|apply And.intro|intro _|(refine gc (fun h=>?_) (fun h=>?_)<;>(have h':=h;(try simp at h');first|done|simp[h,h']|simp))))
 refine aloopT mix (by decide) (fun f:Nat=>blF S X x b k [(86,.d (.sl (ints b.p))),(87,.d (.int .i64 b.p.length)),(88,.d (.int .i64 f))]) (fun f=>f≤b.p.length) (fun f=>b.p.length - f) 0 (by simp)
  (sub_mk _ [(4,4,_),(5,5,_),(7,7,_),(9,9,_)] ⟨by simp,by simp,by simp [renOf,Blk.live,Tb.c,Bk.c],by simp⟩ (by simp [renOf])) ?_
 intro f hf
 by_cases hlf:f<b.p.length
 ·have hfx:f<x.fk.length:=by omega
  obtain ⟨to,l,i,q,e1,e2,e3,e4,e5⟩:=h.par f x.fk[f] b.p[f] (List.getElem?_eq_getElem hfx) (List.getElem?_eq_getElem hlf)
  obtain ⟨hto,hgl0⟩:=List.getElem?_eq_some_iff.1 e2
  obtain ⟨hil,hgq0⟩:=List.getElem?_eq_some_iff.1 e4
  have hgl:∀ h,X[to]'h=l:=fun _=>hgl0
  have hgq:∀ h,l[i]'h=q:=fun _=>hgq0
  have hgp:∀ h,b.p[f]'h=(i:Int):=fun _=>e3
  have hta:=s_target S hl hS hkl hgx0 hfx rfl
  rw [place_at (show fidx (fun y:Tb=>y.n==x.fk[f].t) S 0=to from e1)] at hta
  have hw:=wrap_in (n:=(f:Int)+1) (by omega) (by omega)
  have hin:¬ (i:Int)<0:=by omega
  have hig:¬ l.length≤i:=by omega
  have hqn:¬ (q.n:Int)=0:=by omega
  have hqn2:¬ q.n=0:=by omega
  simp [blF,hlf,hgp]
  (repeat' (first|contradiction|exact .ok|apply And.intro|intro _|(refine gc (fun h=>?_) (fun h=>?_)<;>(have h':=h;(try simp at h');first|done|simp[h,h']|simp))))
  refine acallT_plain hta (by simp [schA]) ?_
  simp [hto,hgl,bkD,hin,hig,hil,hgq,Bk.c,hqn,hqn2]
  (repeat' (first|contradiction|exact .ok|apply And.intro|intro _|(refine gc (fun h=>?_) (fun h=>?_)<;>(have h':=h;(try simp at h');first|done|simp[h,h',hto,hgl,bkD,hin,hig,hil,hgq,Bk.c,hqn,hqn2]|simp[hto,hgl,bkD,hin,hig,hil,hgq,Bk.c,hqn,hqn2]))))
  refine ⟨f+1,by omega,?_,by simp; omega⟩
  exact sub_mk _ [(4,4,_),(5,5,_),(7,7,_),(9,9,_)] ⟨by simp,by simp,by simp [renOf,Blk.live,Tb.c,Bk.c],by simp⟩ (by simp [renOf,hw])
 obtain rfl:f=b.p.length:=by omega
 have hba:=q_bare x hxo b (by omega)
 have hno:=q_noneC (barS x b.v b.v.length)
 have hn:=h.n
 have hn0:(0:Int)<b.n:=by omega
 have hn1:0<b.n:=by omega
 generalize barS x b.v b.v.length=B at *
 simp [blF,Tb.c,Bk.c]
 (repeat' (first|contradiction|exact .ok|apply And.intro|intro _|(refine gc (fun h=>?_) (fun h=>?_)<;>(have h':=h;(try simp at h');first|done|simp[h,h']|simp))))
 refine acallT_plain hba (by simp [Tb.a,Tb.c,Bk.c]) ?_
 simp [Bk.c,hn0,hn1,Tb.c,hch]
 (repeat' (first|contradiction|exact .ok|apply And.intro|intro _|(refine gc (fun h=>?_) (fun h=>?_)<;>(have h':=h;(try simp at h');first|done|simp[h,h',hn0,hn1,hch]|simp[hn0,hn1,hch]))))
 refine acallT_hand [18] hno (by simp) (by simp) (by simp) (by simp) (by simp [hch]) ?_
 simp
 all_goals exact gz
end Go.Proofs.Tryz
