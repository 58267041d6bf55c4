import Derived.Test.YtkkbepgccddjoaaGreatDoorAPln
import Derived.Test.YtkkbepgccddjoaaGreatDoorSmb
import Derived.Test.YtkkbepgccddjoaaGreatDoorAClo
import Derived.Test.YtkkbepgccddjoaaGreatDoorAGud
import Derived.Test.YtkkbepgccddjoaaGreatDoorAbB
import Derived.Lib.SmallJoins
import Derived.LaidMore
import Derived.Stop.Joined
import Derived.Deep.Slices
import Derived.ChangeMaps5
import Derived.HandedShaped
import Derived.Shelf.Vars
import Derived.Test.YtkkbepgccddjoaaGreatDoorRows
import Derived.Test.YtkkbepgccddjoaaGreatDoorChecked
set_option linter.all false
namespace Go.Proofs.Tryz
open Go.Ab
set_option maxRecDepth 100000
set_option maxHeartbeats 2000000
def cmpRows:List V→List V→Int
 | [],[]=>0
 | [],_::_=>-1
 | _::_,[]=>1
 | v::a,u::b=>if v.cmp u ≠ 0 then v.cmp u else cmpRows a b
theorem cmpRows_self:∀ a:List V,cmpRows a a=0
 | []=>rfl
 | v::a=>by simp [cmpRows,V.cmp_self,cmpRows_self a]
theorem cmpRows_step {a b:List V} {i:Nat} (hi:i<a.length) (hj:i<b.length):cmpRows (a.drop i) (b.drop i)=if a[i].cmp b[i] ≠ 0 then a[i].cmp b[i] else cmpRows (a.drop (i+1)) (b.drop (i+1)):=by
 rw [List.drop_eq_getElem_cons hi,List.drop_eq_getElem_cons hj,cmpRows]
theorem cmpRows_end1 {a b:List V} {i:Nat} (h1:i<a.length) (h2:b.length≤i):cmpRows (a.drop i) (b.drop i)=1:=by
 rw [List.drop_eq_getElem_cons h1,List.drop_eq_nil_of_le h2,cmpRows]
theorem cmpRows_end2 {a b:List V} {i:Nat} (h1:a.length≤i) (h2:i<b.length):cmpRows (a.drop i) (b.drop i)=-1:=by
 rw [List.drop_eq_getElem_cons h2,List.drop_eq_nil_of_le h1,cmpRows]
theorem cmpRows_end3 {a b:List V} {i:Nat} (h1:a.length≤i) (h2:b.length≤i):cmpRows (a.drop i) (b.drop i)=0:=by
 rw [List.drop_eq_nil_of_le h2,List.drop_eq_nil_of_le h1,cmpRows]
theorem r_rowsC (a b:List V) (ha:a.length≤1000000) (hb:b.length≤1000000):Cf En 18 [.d (.sl (a.map V.c)),.d (.sl (b.map V.c))] [] (.d (.int .i64 (cmpRows a b))) []:=by
 refine cf_intro mix (fn:=Tryz.f18) (by kernel_rfl) rfl (by kernel_rfl) (by decide) (by simp) ?_
 simp
 (repeat' (first|contradiction|exact .ok|apply And.intro|intro _|(refine gc (fun h=>?_) (fun h=>?_)<;>(have h':=h;(try simp at h');first|done|simp[h,h']|simp))))
 refine aloopT mix (by decide) (fun i:Nat=>{ s:=mkS [(0,.d (.sl (a.map V.c))),(1,.d (.sl (b.map V.c))),(5,.d (.int .i64 i))],b:=mkB [] }) (fun i:Nat=>i≤a.length∧i≤b.length∧cmpRows (a.drop i) (b.drop i)=cmpRows a b) (fun i=>a.length - i) 0 (by simp) (sub_mk _ [] .nil (by simp)) ?_
 rintro i ⟨hi,hj,ho⟩
 by_cases hlt:i<a.length
 ·have hlt':(i:Int)<a.length:=by omega
  by_cases hjl:i<b.length
  ·have hjl':(i:Int)<b.length:=by omega
   have hst:=cmpRows_step hlt hjl
   have hw:=wrap_in (n:=(i:Int)+1) (by omega) (by omega)
   have hcm:=r_compare a[i] b[i]
   by_cases hz:a[i].cmp b[i]=0
   ·rw [if_neg (by simp [hz]),ho] at hst
    rw [hz] at hcm
    simp [hlt',hlt,hjl',hjl,V.c]
    (repeat' (first|contradiction|exact .ok|apply And.intro|intro _|(refine gc (fun h=>?_) (fun h=>?_)<;>(have h':=h;(try simp at h');first|done|simp[h,h',hlt',hlt,hjl',hjl]|simp[hlt',hlt,hjl',hjl]))))
    refine acallT_plain hcm (by simp [V.a]) ?_
    simp
    (repeat' (first|contradiction|exact .ok|apply And.intro|intro _|(refine gc (fun h=>?_) (fun h=>?_)<;>(have h':=h;(try simp at h');first|done|simp[h,h']|simp))))
    refine ⟨i+1,⟨by omega,by omega,hst.symm⟩,?_,by simp; omega⟩
    exact sub_mk _ [] .nil (by simp [hw])
   ·rw [if_pos hz,ho] at hst
    rw [← hst] at hcm hz
    simp [hlt',hlt,hjl',hjl,V.c]
    (repeat' (first|contradiction|exact .ok|apply And.intro|intro _|(refine gc (fun h=>?_) (fun h=>?_)<;>(have h':=h;(try simp at h');first|done|simp[h,h',hlt',hlt,hjl',hjl]|simp[hlt',hlt,hjl',hjl]))))
    refine acallT_plain hcm (by simp [V.a]) ?_
    simp [hz]
    (repeat' (first|contradiction|exact .ok|apply And.intro|intro _|(refine gc (fun h=>?_) (fun h=>?_)<;>(have h':=h;(try simp at h');first|done|simp[h,h',hz]|simp[hz]))))
  ·have hjl':¬ (i:Int)<b.length:=by omega
   have h1:¬ (a.length:Int)<b.length:=by omega
   have h2:(b.length:Int)<a.length:=by omega
   have h3:¬ a.length<b.length:=by omega
   have h4:b.length<a.length:=by omega
   rw [cmpRows_end1 hlt (by omega)] at ho
   simp [hlt,hlt',hjl',hjl,h1,h2,h3,h4,← ho]
   (repeat' (first|contradiction|exact .ok|apply And.intro|intro _|(refine gc (fun h=>?_) (fun h=>?_)<;>(have h':=h;(try simp at h');first|done|simp[h,h',hlt,hlt',hjl',hjl,h1,h2,h3,h4,← ho]|simp[hlt,hlt',hjl',hjl,h1,h2,h3,h4,← ho]))))
 ·have hlt':¬ (i:Int)<a.length:=by omega
  by_cases hjl:i<b.length
  ·have h1:(a.length:Int)<b.length:=by omega
   have h3:a.length<b.length:=by omega
   rw [cmpRows_end2 (by omega) hjl] at ho
   simp [hlt,hlt',h1,h3,← ho]
   (repeat' (first|contradiction|exact .ok|apply And.intro|intro _|(refine gc (fun h=>?_) (fun h=>?_)<;>(have h':=h;(try simp at h');first|done|simp[h,h',hlt,hlt',h1,h3,← ho]|simp[hlt,hlt',h1,h3,← ho]))))
  ·have h1:¬ (a.length:Int)<b.length:=by omega
   have h2:¬ (b.length:Int)<a.length:=by omega
   have h3:¬ a.length<b.length:=by omega
   have h4:¬ b.length<a.length:=by omega
   rw [cmpRows_end3 (by omega) (by omega)] at ho
   simp [hlt,hlt',h1,h2,h3,h4,← ho]
   (repeat' (first|contradiction|exact .ok|apply And.intro|intro _|(refine gc (fun h=>?_) (fun h=>?_)<;>(have h':=h;(try simp at h');first|done|simp[h,h',hlt,hlt',h1,h2,h3,h4,← ho]|simp[hlt,hlt',h1,h2,h3,h4,← ho]))))
theorem r_equal (R:List (List V)) (hR:R.length≤1000000) (hr:∀ r∈R,r.length≤1000000):Cf En 16 [.d (.sl (R.map fun r=>[.sl (r.map V.c)])),.d (.sl (R.map fun r=>[.sl (r.map V.c)]))] [] (.d (.bool true)) []:=by
 refine cf_intro mix (fn:=Tryz.f16) (by kernel_rfl) rfl (by kernel_rfl) (by decide) (by simp) ?_
 simp
 (repeat' (first|contradiction|exact .ok|apply And.intro|intro _|(refine gc (fun h=>?_) (fun h=>?_)<;>(have h':=h;(try simp at h');first|done|simp[h,h']|simp))))
 refine aloopT mix (by decide) (fun i:Nat=>{ s:=mkS [(0,.d (.sl (R.map fun r=>[.sl (r.map V.c)]))),(1,.d (.sl (R.map fun r=>[.sl (r.map V.c)]))),(5,.d (.int .i64 i))],b:=mkB [] }) (fun i:Nat=>i≤R.length) (fun i=>R.length - i) 0 (by simp) (sub_mk _ [] .nil (by simp)) ?_
 intro i hi
 by_cases hlt:i<R.length
 ·have hw:=wrap_in (n:=(i:Int)+1) (by omega) (by omega)
  have hl:=hr R[i] (List.getElem_mem hlt)
  have hc:=r_rowsC R[i] R[i] hl hl
  rw [cmpRows_self] at hc
  simp [hlt]
  (repeat' (first|contradiction|exact .ok|apply And.intro|intro _|(refine gc (fun h=>?_) (fun h=>?_)<;>(have h':=h;(try simp at h');first|done|simp[h,h']|simp))))
  refine acallT_plain hc (by simp) ?_
  simp
  (repeat' (first|contradiction|exact .ok|apply And.intro|intro _|(refine gc (fun h=>?_) (fun h=>?_)<;>(have h':=h;(try simp at h');first|done|simp[h,h']|simp))))
  refine ⟨i+1,by omega,?_,by simp; omega⟩
  exact sub_mk _ [] .nil (by simp [hw])
 obtain rfl:i=R.length:=by omega
 simp
 all_goals exact gz
end Go.Proofs.Tryz
namespace Go.Proofs.Tryz
open Go.Ab
set_option maxRecDepth 100000
set_option maxHeartbeats 8000000
structure SumOk (S:List Tb) (X:List (List Bk)):Prop where
 len:X.length=S.length
 few:S.length≤1000
 ok:∀ x∈S,x.ok
 ch:∀ x∈S,x.ch=[]
 ty:∀ x∈S,∀ u∈x.cols,u.t=1∨u.t=2∨u.t=3
 bl:∀ l∈X,l.length≤900∧sumN (cntB l)≤1000000
 blk:∀ (k:Nat) (x:Tb) (l:List Bk),S[k]?=some x→X[k]?=some l→∀ b∈l,BlkOk S X x b
theorem q_valid {S:List Tb} {X:List (List Bk)} (h:SumOk S X) (hpl:Cf Es 59 [schA S] [] (.d (.bool true)) []) :
  Cf Es 34 [schA S,smyA X] [] (.d (.int .i64 0)) []:=by
 refine cf_intro mixs (fn:=Tryz.f34) (by kernel_rfl) rfl (by kernel_rfl) (by decide) (by simp) ?_
 have hfew:=h.few
 have hXl:=h.len
 simp [schA,smyA]
 (repeat' (first|contradiction|exact .ok|apply And.intro|intro _|(refine gc (fun h=>?_) (fun h=>?_)<;>(have h':=h;(try simp at h');first|done|simp[h,h']|simp))))
 refine acallT_plain hpl (by simp [schA]) ?_
 simp [hXl]
 (repeat' (first|contradiction|exact .ok|apply And.intro|intro _|(refine gc (fun h=>?_) (fun h=>?_)<;>(have h':=h;(try simp at h');first|done|simp[h,h',hXl]|simp[hXl]))))
 refine aloopT mixs (by decide) (fun k:Nat=>{ s:=mkS [(2,.ptr 2 0 0),(3,.ptr 3 0 0),(23,.d (.sl (X.map bkD))),(24,.d (.int .i64 X.length)),(25,.d (.int .i64 k))],b:=mkB [(2,2,.var [.d (.sl (S.map Tb.c))]),(3,3,.var [.d (.sl (X.map bkD))])] }) (fun k=>k≤X.length) (fun k=>X.length - k) 0 (by simp)
  (sub_mk _ [(2,2,_),(3,3,_)] ⟨by simp,by simp,by simp [renOf,Blk.live],by simp⟩ (by simp [renOf,hXl])) ?_
 intro k hk
 by_cases hkl:k<X.length
 ·obtain ⟨l,hl⟩:∃ l,l=X[k]:=⟨_,rfl⟩
  have hgl:∀ h,X[k]'h=l:=fun _=>hl.symm
  have hkS:k<S.length:=by omega
  obtain ⟨x,hx⟩:∃ x,x=S[k]:=⟨_,rfl⟩
  have hxm:x∈S:=by rw [hx]; exact List.getElem_mem hkS
  obtain ⟨l1,l2⟩:=h.bl l (by rw [hl]; exact List.getElem_mem hkl)
  have hb:=h.blk k x l (by rw [List.getElem?_eq_getElem hkS,hx]) (by rw [List.getElem?_eq_getElem hkl,hl])
  have hc:=ups (m_counts l l1)
  have ho:=ups (k_offsets (cntB l) (by rw [cntB_len]; omega) l2)
  have hw:=wrap_in (n:=(k:Int)+1) (by omega) (by omega)
  have h2000:¬ (2000:Int)<l.length:=by omega
  have h2000n:¬ 2000<l.length:=by omega
  simp [hkl,hgl,bkD]
  (repeat' (first|contradiction|exact .ok|apply And.intro|intro _|(refine gc (fun h=>?_) (fun h=>?_)<;>(have h':=h;(try simp at h');first|done|simp[h,h']|simp))))
  refine acallT_plain hc (by simp) ?_
  simp
  refine acallT_plain ho (by simp) ?_
  simp [h2000,h2000n]
  (repeat' (first|contradiction|exact .ok|apply And.intro|intro _|(refine gc (fun h=>?_) (fun h=>?_)<;>(have h':=h;(try simp at h');first|done|simp[h,h',h2000,h2000n]|simp[h2000,h2000n]))))
  refine aloopT mixs (by decide) (fun j:Nat=>{ s:=mkS [(2,.ptr 2 0 0),(3,.ptr 3 0 0),(5,.d (.int .i64 k)),(23,.d (.sl (X.map bkD))),(24,.d (.int .i64 X.length)),(25,.d (.int .i64 k)),(43,.d (.sl (l.map Bk.c))),(44,.d (.int .i64 l.length)),(45,.d (.int .i64 j))],b:=mkB [(2,2,.var [.d (.sl (S.map Tb.c))]),(3,3,.var [.d (.sl (X.map bkD))])] }) (fun j=>j≤l.length) (fun j=>l.length - j) 0 (by simp)
   (sub_mk _ [(2,2,_),(3,3,_)] ⟨by simp,by simp,by simp [renOf,Blk.live],by simp⟩ (by simp [renOf])) ?_
  intro j hj
  by_cases hjl:j<l.length
  ·obtain ⟨b,hb0⟩:∃ b,b=l[j]:=⟨_,rfl⟩
   have hgb:∀ h,l[j]'h=b:=fun _=>hb0.symm
   have hbl:=ups (q_block S hfew h.ok X (by omega) k x (by rw [List.getElem?_eq_getElem hkS,hx]) (h.ch x hxm) (h.ty x hxm) b (hb b (by rw [hb0]; exact List.getElem_mem hjl)))
   have hwj:=wrap_in (n:=(j:Int)+1) (by omega) (by omega)
   simp [hjl,hgb,Bk.c]
   (repeat' (first|contradiction|exact .ok|apply And.intro|intro _|(refine gc (fun h=>?_) (fun h=>?_)<;>(have h':=h;(try simp at h');first|done|simp[h,h']|simp))))
   refine acallT_plain hbl (by simp [schA,smyA,Bk.c]) ?_
   simp
   (repeat' (first|contradiction|exact .ok|apply And.intro|intro _|(refine gc (fun h=>?_) (fun h=>?_)<;>(have h':=h;(try simp at h');first|done|simp[h,h']|simp))))
   refine ⟨j+1,by omega,?_,by simp; omega⟩
   exact sub_mk _ [(2,2,_),(3,3,_)] ⟨by simp,by simp,by simp [renOf,Blk.live],by simp⟩ (by simp [renOf,hwj])
  obtain rfl:j=l.length:=by omega
  simp
  (repeat' (first|contradiction|exact .ok|apply And.intro|intro _|(refine gc (fun h=>?_) (fun h=>?_)<;>(have h':=h;(try simp at h');first|done|simp[h,h']|simp))))
  refine ⟨k+1,by omega,?_,by simp; omega⟩
  exact sub_mk _ [(2,2,_),(3,3,_)] ⟨by simp,by simp,by simp [renOf,Blk.live],by simp⟩ (by simp [renOf,hw])
 obtain rfl:k=X.length:=by omega
 simp
 all_goals exact gz
end Go.Proofs.Tryz
namespace Go.Proofs.YtkkbepgccddjoaaGreatDoor
open Go.ChangeShapes Go.WideShapes Go.ChangeAt Go.RowKit Go.Ab Go.Proofs.Tryz
set_option maxRecDepth 100000
theorem own:ownKnob Tryz.prog.godebug=none:=by kernel_rfl
theorem laidOut:laidOutB Tryz.prog=true:=by kernel_rfl
theorem gNull : Tryz.prog.globalNamed "querylab/value.null" = some 1 := by kernel_rfl
theorem tNull:(Tryz.prog.globals[1]?).map (·.type)=some 92:=by kernel_rfl
theorem gOps : Tryz.prog.globalNamed "querylab/expression.operations" = some 0 := by kernel_rfl
theorem tOps:(Tryz.prog.globals[0]?).map (·.type)=some 235:=by kernel_rfl
theorem maxLen_cell {W:World} (hs:W.ShapedOpen Tryz.prog):RepCells (memOf W) 2 0 [.any isI64]∧∃ a ety z,W.heap[2]?=some (.cells a ety z)∧a.size=1:=by
 obtain ⟨m,hm⟩:=Go.Proofs.cell_of_shapedOpen_int (g:=2) (zero:=#[.int .i64 0]) (t:=3) hs (of_decide_eq_true (by kernel_rfl)) (by kernel_rfl) rfl (by kernel_rfl) (by kernel_rfl) Tryz.underlying3
 obtain ⟨cs,hh,hz,_⟩:=hs.1 2 #[.int .i64 0] 3 (of_decide_eq_true (by kernel_rfl)) (by kernel_rfl)
 refine ⟨?_,cs,3,(0,0),hh,hz⟩
 simp only [RepCells,RepD]
 exact ⟨⟨.int .i64 m,hm,⟨m,rfl⟩,rfl⟩,trivial⟩
def laid2 : List (String × DataW Unit) := [("querylab/value.null", Rows.laid_querylab_value_null), ("querylab/expression.operations", Rows.laid_querylab_expression_operations)]
theorem of_laid2 {W:World} (h:laidMetH Tryz.prog laid2 W) (hs:W.ShapedOpen Tryz.prog):∀ g cs,Es.G g=some cs→RepCells (memOf W) g 0 cs∧∃ a ety z,W.heap[g]?=some (.cells a ety z)∧a.size=cs.length:=by
 rw [MakeChecks.laidMetH_plain _ _ _ (by kernel_rfl)] at h
 obtain ⟨ps,⟨g0,t0,cs0,f0,p0,q0,hg0,ht0,hv0,hd0,⟨g1,t1,cs1,f1,p1,q1,hg1,ht1,hv1,hd1,_,_⟩,_⟩,_,_⟩:=h
 obtain rfl:=Option.some.inj (gNull.symm.trans hg0)
 obtain rfl:=Option.some.inj (tNull.symm.trans ht0)
 obtain rfl:=Option.some.inj (gOps.symm.trans hg1)
 obtain rfl:=Option.some.inj (tOps.symm.trans ht1)
 intro g cs hg
 rw [Es_G,esG] at hg
 split at hg
 ·rename_i e
  subst e
  cases hg
  exact ⟨laid_rep (m:=3) gNull hv0 hd0 (by kernel_rfl),laid_size (m:=3) gNull hv0 hd0 (by kernel_rfl)⟩
 ·split at hg
  ·rename_i e
   subst e
   cases hg
   exact ⟨laid_rep (m:=4) gOps hv1 hd1 (by kernel_rfl),laid_size (m:=4) gOps hv1 hd1 (by kernel_rfl)⟩
  ·split at hg
   ·rename_i e
    subst e
    cases hg
    exact maxLen_cell hs
   ·cases hg
theorem door2 (os:Os) (args:Array Value):laidMetH Tryz.prog laid2 ((World.doorLaid Tryz.prog 400 os).forCall (fun _ _=>0) ⟨#[],args,[]⟩).memory :=
 laidMetH_of_parts3 (fuel:=8) (laidMet_of_run' 8 (by kernel_rfl) (by kernel_rfl)) (by kernel_rfl) (by kernel_rfl)
theorem lifted_shaped {H:Type} {enc:TypeId×Value→H} {a:Assume} {C:Checked} {os:Os} {f:FuncId} {fn:Func} {s:ChangeSpec} {conds:List PathCond} {apart fresh handsOn again:Bool} {X:World→Array Value→Prop}
  (hX:∀ (w w':World) (args:Array Value),w.heap=w'.heap→X w args→X w' args)
  (own:ownKnob C.prog.godebug=none) (started:os.Started) (noInit:C.prog.inits.idxOf? f=none) (hfn:C.prog.funcs[f]?=some fn)
  (witness:∃ (w:World) (tape:Tape) (i:Input),w.os=os∧(w.forCall tape i).Shaped C.prog∧i.vars=[]∧Input.okWide C.prog (w.forCall tape i) .any w.heap.size f i ∧
   ((s.pre enc C.prog fn conds apart (w.forCall tape i).memory i.args∧X (w.forCall tape i).memory i.args)∧sizedMet enc C.prog fn (OpenSpec.ofChange s) apart (w.forCall tape i).memory i.args)∧a.holds C.prog (lone (Frame.enter C.prog f i.args .normal) [] (w.forCall tape i)))
  (contract:∀ (W:World) (base:Nat) (args:Array Value) (ds gs:List (DataW H)) (before:List MemPlace),
   (∀ (j:Nat) t v,fn.params[j]?=some t→args[j]?=some v→Value.okWide C.prog W .any base t v) →
   DataW.Whole enc C.prog fn.params.toList s.vars apart W args.toList ds gs before →
   W.ShapedOpen C.prog→X W args →
   Calls C.prog f args W fun e W'=>∃ v,e=.returned v∧s.post enc C.prog fn apart fresh handsOn again W args v W') :
  ReturnsInHanded a C os f .any (fun w args=>(s.pre enc C.prog fn conds apart w args∧X w args)∧sizedMet enc C.prog fn (OpenSpec.ofChange s) apart w args) (s.post enc C.prog fn apart fresh handsOn again):=by
 refine returnsInHanded_of_calls own started noInit witness ?_
 intro w tape i _ hsh _ hok hpre hholds
 obtain ⟨_,_,_,fn',hfn',_,_,_,_,hval⟩:=hok
 have e:fn'=fn:=Option.some.inj (hfn'.symm.trans hfn)
 subst e
 obtain ⟨⟨⟨ds,gs,before,hw,hc⟩,hx⟩,hz⟩:=hpre
 have hw':=DataW.Whole.of_heap (w':=w.forCall tape i) (by rfl) hw
 refine (contract (w.forCall tape i) w.heap.size i.args ds gs before hval hw' hsh (hX _ _ _ (by rfl) hx)).mono fun e W' ⟨v,he,hp⟩=>?_
 subst he
 exact ChangeSpec.post_blind hp
theorem is_open {H:Type} {enc:TypeId×Value→H} {W:World} {base:Nat} {spare:Nat→Bool} {held:Bool} {r:Reach} {b0:Nat} {v:Value} {d:DataW H} {p:List MemPlace}
  (hv:Value.okWide Tryz.prog W r b0 22 v) (h:DataW.Trod enc Tryz.prog W base spare held 22 v d p) :
  ∃ l:List Int,RepD (memOf W) v (.sl (ints l)):=by
 obtain ⟨a,len,cap,rfl⟩:=okWide_slice (e:=3) (by kernel_rfl) hv
 obtain ⟨fuel,h⟩:=h
 rcases Go.Deep.open_slice (e:=3) (by kernel_rfl) h with ⟨hc,_⟩ | ⟨a',len',cap',m,n,D,Pl,hc,_,hl,_,hm,_,hi⟩
 ·simp only [Value.cells,List.cons.injEq,and_true] at hc
  simp at hc
  obtain ⟨rfl,rfl,rfl⟩:=hc
  exact ⟨[],by simp only [RepD]; exact ⟨none,0,rfl,Nat.le_refl _,.inl rfl⟩⟩
 ·simp [Value.cells] at hc
  obtain ⟨rfl,rfl,rfl⟩:=hc
  have hsz:Tryz.prog.cellsOf 3=1:=by
   have:(Tryz.prog.cellsOf 3==1)=true:=by kernel_rfl
   simpa using this
  obtain ⟨l,_,hr⟩:=sl_rep (w:=W) (a:=a') (len:=len) (cap:=cap) (sz:=1) (fun n:Int=>[Go.Ab.D.int .i64 n]) hl (fun _=>rfl) (by decide) fun i hlt=>by
   obtain ⟨cs,hc,ht⟩:=hi i (by rw [hm]; split <;> omega)
   rw [hsz] at hc
   obtain ⟨_,hcl,hat⟩:=World.cells?_some hc
   obtain ⟨k,e0,_,_⟩:=DataW.trod_int (k:=.i64) (by kernel_rfl) ht
   subst e0
   refine ⟨k,fun j c hj=>?_⟩
   have hj0:j=0:=by
    have:=(List.getElem?_eq_some_iff.1 hj).1
    simpa using this
   subst hj0
   cases hj
   refine ⟨.int .i64 k,?_,by simp only [RepD]⟩
   rw [← Go.Deep.add_add,hat 0 (by decide)]; rfl
  exact ⟨l,hr⟩
end Go.Proofs.YtkkbepgccddjoaaGreatDoor
