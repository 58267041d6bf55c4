import Derived.Test.YtklnfckiabhceaaGreatDoorKFil
import Derived.Test.YtklnfckiabhceaaGreatDoorKEnvR
import Derived.Test.YtklnfckiabhceaaGreatDoorAbB
import Derived.Lib.SmallJoins
import Derived.LaidMore
import Derived.Stop.Joined
import Derived.Deep.Slices
import Derived.ChangeMaps5
import Derived.HandedShaped
import Derived.Shelf.Vars
import Derived.Test.YtklnfckiabhceaaGreatDoorRows
import Derived.Test.YtklnfckiabhceaaGreatDoorChecked
set_option linter.all false
namespace Go.Proofs.YtklnfckiabhceaaGreatDoor
open Go.ChangeShapes Go.WideShapes Go.ChangeAt Go.RowKit Go.Ab Go.Proofs.Tryz
set_option maxRecDepth 100000
theorem own:ownKnob Tryz.prog.godebug=none:=by kernel_rfl
theorem laidOut:laidOutB Tryz.prog=true:=by kernel_rfl
theorem gNull : Tryz.prog.globalNamed "querylab/value.null" = some 1 := by kernel_rfl
theorem tNull:(Tryz.prog.globals[1]?).map (·.type)=some 79:=by kernel_rfl
theorem gOps : Tryz.prog.globalNamed "querylab/expression.operations" = some 0 := by kernel_rfl
theorem tOps:(Tryz.prog.globals[0]?).map (·.type)=some 198:=by kernel_rfl
theorem RepL_get {μ:Nat→Nat→Option Value}:∀ {vs:List Value} {cs:List D},RepL μ vs cs→∀ (j:Nat) (c:D),cs[j]?=some c→∃ v,vs[j]?=some v∧RepD μ v c
 | [],[],_,j,c,h=>by simp at h
 | v::vs,c0::cs,h,0,c,e=>by
   cases e
   exact ⟨v,rfl,h.1⟩
 | v::vs,c0::cs,h,j+1,c,e=>by simpa using RepL_get h.2 j c (by simpa using e)
theorem RepL_as {μ:Nat→Nat→Option Value} {L:Nat→Option Go.Ab.Loc}:∀ {vs:List Value} {cs:List D},RepL μ vs cs→RepAs ⟨μ,L⟩ vs (cs.map AV.d)
 | [],[],_=>by simp [RepAs]
 | v::vs,c::cs,h=>by
   rw [List.map_cons,RepAs]
   refine ⟨v,vs,rfl,?_,RepL_as h.2⟩
   simp only [RepA]
   exact h.1
theorem slice_read {α H:Type} {enc:TypeId×Value→H} {W:World} {base:Nat} {spare:Nat→Bool} {held:Bool} (f:α→List D) (Pr:α→Prop) {sz e t n:Nat} {c:Value} {x:DataW H×List MemPlace}
  (hu:Tryz.prog.underlying t=some (.slice e)) (hcs:Tryz.prog.cellsOf e=sz) (hf:∀ u,(f u).length=sz) (h0:0<sz) (h:DataW.trod enc Tryz.prog W base spare held n t [c]=some x)
  (elem:∀ n2,n2<n→∀ cs y,DataW.trod enc Tryz.prog W base spare held n2 e cs=some y→cs.length=sz→∃ u,Pr u∧RepL (memOf W) cs (f u)) :
  ∃ l:List α,l.length≤9223372036854775807∧(∀ u∈l,Pr u)∧RepD (memOf W) c (.sl (l.map f)):=by
 rcases DataW.trod_slice (e:=e) hu h with ⟨hc,_⟩ | ⟨a,len,cap,elems,rest,n2,hn2,hc,_,_,hlc,hcm,hel,hi,_,_⟩
 ·simp only [List.cons.injEq,and_true] at hc
  subst hc
  exact ⟨[],by simp,by simp,by simp only [RepD]; exact ⟨none,0,rfl,Nat.le_refl _,.inl rfl⟩⟩
 ·simp only [List.cons.injEq,and_true] at hc
  subst hc
  obtain ⟨l,hll,hr⟩:=sl_rep (w:=W) (a:=a) (len:=len) (cap:=cap) (sz:=sz) (α:={ u:α // Pr u }) (fun u=>f u.1) hlc (fun u=>hf u.1) h0 fun i hlt=>by
   have hi':=hi i hlt
   rw [List.getElem?_eq_getElem (by omega)] at hi'
   rw [Option.bind_eq_some_iff] at hi'
   obtain ⟨cs,hcs',ht⟩:=hi'
   rw [hcs] at hcs'
   obtain ⟨_,hcl,hat⟩:=World.cells?_some hcs'
   obtain ⟨u,hu,hr⟩:=elem n2 (by omega) cs _ ht hcl
   refine ⟨⟨u,hu⟩,fun j c hj=>?_⟩
   obtain ⟨v,hv,hr⟩:=RepL_get hr j c hj
   refine ⟨v,?_,hr⟩
   have hj6:j<sz:=by have:=(List.getElem?_eq_some_iff.1 hj).1; rw [hf] at this; exact this
   rw [← Go.Deep.add_add,hat j hj6,hv]
  refine ⟨l.map (·.1),?_,?_,by rw [List.map_map]; exact hr⟩
  ·simp only [maxLen] at hcm
   simp [hll]; omega
  ·intro u hu
   obtain ⟨v,_,rfl⟩:=List.mem_map.1 hu
   exact v.2
theorem int_read {H:Type} {enc:TypeId×Value→H} {W:World} {base:Nat} {spare:Nat→Bool} {held:Bool} {n t:Nat} {c:Value} {x:DataW H×List MemPlace} (hu:Tryz.prog.underlying t=some (.int .i64)) (h:DataW.trod enc Tryz.prog W base spare held n t [c]=some x) :
  ∃ k:Int,c=.int .i64 k:=by
 obtain ⟨k,e,_,_⟩:=DataW.trod_int (k:=.i64) hu h
 simp only [List.cons.injEq,and_true] at e
 exact ⟨k,e⟩
theorem str_read {H:Type} {enc:TypeId×Value→H} {W:World} {base:Nat} {spare:Nat→Bool} {held:Bool} {n t:Nat} {c:Value} {x:DataW H×List MemPlace} (hu:Tryz.prog.underlying t=some .string) (h:DataW.trod enc Tryz.prog W base spare held n t [c]=some x) :
  ∃ s:List UInt8,RepD (memOf W) c (.str s):=by
 obtain ⟨k,e,_,_⟩:=DataW.trod_string hu h
 simp only [List.cons.injEq,and_true] at e
 subst e
 exact ⟨k.data.toList,by simp [RepD]⟩
theorem cells1 {t:Nat} (h:(Tryz.prog.cellsOf t==1)=true):Tryz.prog.cellsOf t=1:=by simpa using h
theorem maxLen_cell {W:World} (hs:W.ShapedOpen Tryz.prog):RepCells (memOf W) 2 0 [.any isI64]∧∃ a ety z,W.heap[2]?=some (.cells a ety z)∧a.size=1:=by
 obtain ⟨m,hm⟩:=Go.Proofs.cell_of_shapedOpen_int (g:=2) (zero:=#[.int .i64 0]) (t:=3) hs (of_decide_eq_true (by kernel_rfl)) (by kernel_rfl) rfl (by kernel_rfl) (by kernel_rfl) Tryz.underlying3
 obtain ⟨cs,hh,hz,_⟩:=hs.1 2 #[.int .i64 0] 3 (of_decide_eq_true (by kernel_rfl)) (by kernel_rfl)
 refine ⟨?_,cs,3,(0,0),hh,hz⟩
 simp only [RepCells,RepD]
 exact ⟨⟨.int .i64 m,hm,⟨m,rfl⟩,rfl⟩,trivial⟩
def laid5 : List (String × DataW Unit) := [("math/bits.deBruijn32tab", Rows.laid_math_bits_deBruijn32tab), ("math/bits.deBruijn64tab", Rows.laid_math_bits_deBruijn64tab), ("internal/strconv.uint64pow10", Rows.laid_internal_strconv_uint64pow10), ("querylab/value.null", Rows.laid_querylab_value_null), ("querylab/expression.operations", Rows.laid_querylab_expression_operations)]
theorem of_laid5 {W:World} (h:laidMetH Tryz.prog laid5 W) (hs:W.ShapedOpen Tryz.prog):∀ g cs,Es.G g=some cs→RepCells (memOf W) g 0 cs∧∃ a ety z,W.heap[g]?=some (.cells a ety z)∧a.size=cs.length:=by
 rw [MakeChecks.laidMetH_plain _ _ _ (by kernel_rfl)] at h
 obtain ⟨ps,⟨_,_,_,_,_,_,_,_,_,_,⟨_,_,_,_,_,_,_,_,_,_,⟨_,_,_,_,_,_,_,_,_,_,⟨g0,t0,cs0,f0,p0,q0,hg0,ht0,hv0,hd0,⟨g1,t1,cs1,f1,p1,q1,hg1,ht1,hv1,hd1,_,_⟩,_⟩,_⟩,_⟩,_⟩,_,_⟩:=h
 obtain rfl:=Option.some.inj (gNull.symm.trans hg0)
 obtain rfl:=Option.some.inj (tNull.symm.trans ht0)
 obtain rfl:=Option.some.inj (gOps.symm.trans hg1)
 obtain rfl:=Option.some.inj (tOps.symm.trans ht1)
 intro g cs hg
 rw [Es_G,esG] at hg
 split at hg
 ·rename_i e
  subst e
  cases hg
  exact ⟨laid_rep (m:=3) gNull hv0 hd0 (by kernel_rfl),laid_size (m:=3) gNull hv0 hd0 (by kernel_rfl)⟩
 ·split at hg
  ·rename_i e
   subst e
   cases hg
   exact ⟨laid_rep (m:=4) gOps hv1 hd1 (by kernel_rfl),laid_size (m:=4) gOps hv1 hd1 (by kernel_rfl)⟩
  ·split at hg
   ·rename_i e
    subst e
    cases hg
    exact maxLen_cell hs
   ·cases hg
theorem door5 (os:Os) (args:Array Value):laidMetH Tryz.prog laid5 ((World.doorLaid Tryz.prog 400 os).forCall (fun _ _=>0) ⟨#[],args,[]⟩).memory :=
 laidMetH_of_parts3 (fuel:=8) (laidMet_of_run' 8 (by kernel_rfl) (by kernel_rfl)) (by kernel_rfl) (by kernel_rfl)
theorem lifted_shaped {H:Type} {enc:TypeId×Value→H} {a:Assume} {C:Checked} {os:Os} {f:FuncId} {fn:Func} {s:ChangeSpec} {conds:List PathCond} {apart fresh handsOn again:Bool} {X:World→Array Value→Prop}
  (hX:∀ (w w':World) (args:Array Value),w.heap=w'.heap→X w args→X w' args)
  (own:ownKnob C.prog.godebug=none) (started:os.Started) (noInit:C.prog.inits.idxOf? f=none) (hfn:C.prog.funcs[f]?=some fn)
  (witness:∃ (w:World) (tape:Tape) (i:Input),w.os=os∧(w.forCall tape i).Shaped C.prog∧i.vars=[]∧Input.okWide C.prog (w.forCall tape i) .any w.heap.size f i ∧
   ((s.pre enc C.prog fn conds apart (w.forCall tape i).memory i.args∧X (w.forCall tape i).memory i.args)∧sizedMet enc C.prog fn (OpenSpec.ofChange s) apart (w.forCall tape i).memory i.args)∧a.holds C.prog (lone (Frame.enter C.prog f i.args .normal) [] (w.forCall tape i)))
  (contract:∀ (W:World) (base:Nat) (args:Array Value) (ds gs:List (DataW H)) (before:List MemPlace),
   (∀ (j:Nat) t v,fn.params[j]?=some t→args[j]?=some v→Value.okWide C.prog W .any base t v) →
   DataW.Whole enc C.prog fn.params.toList s.vars apart W args.toList ds gs before →
   W.ShapedOpen C.prog→X W args →
   Calls C.prog f args W fun e W'=>∃ v,e=.returned v∧s.post enc C.prog fn apart fresh handsOn again W args v W') :
  ReturnsInHanded a C os f .any (fun w args=>(s.pre enc C.prog fn conds apart w args∧X w args)∧sizedMet enc C.prog fn (OpenSpec.ofChange s) apart w args) (s.post enc C.prog fn apart fresh handsOn again):=by
 refine returnsInHanded_of_calls own started noInit witness ?_
 intro w tape i _ hsh _ hok hpre hholds
 obtain ⟨_,_,_,fn',hfn',_,_,_,_,hval⟩:=hok
 have e:fn'=fn:=Option.some.inj (hfn'.symm.trans hfn)
 subst e
 obtain ⟨⟨⟨ds,gs,before,hw,hc⟩,hx⟩,hz⟩:=hpre
 have hw':=DataW.Whole.of_heap (w':=w.forCall tape i) (by rfl) hw
 refine (contract (w.forCall tape i) w.heap.size i.args ds gs before hval hw' hsh (hX _ _ _ (by rfl) hx)).mono fun e W' ⟨v,he,hp⟩=>?_
 subst he
 exact ChangeSpec.post_blind hp
theorem is_open {H:Type} {enc:TypeId×Value→H} {W:World} {base:Nat} {spare:Nat→Bool} {held:Bool} {r:Reach} {b0:Nat} {v:Value} {d:DataW H} {p:List MemPlace}
  (hv:Value.okWide Tryz.prog W r b0 22 v) (h:DataW.Trod enc Tryz.prog W base spare held 22 v d p) :
  ∃ l:List Int,RepD (memOf W) v (.sl (ints l)):=by
 obtain ⟨a,len,cap,rfl⟩:=okWide_slice (e:=3) (by kernel_rfl) hv
 obtain ⟨fuel,h⟩:=h
 rcases Go.Deep.open_slice (e:=3) (by kernel_rfl) h with ⟨hc,_⟩ | ⟨a',len',cap',m,n,D,Pl,hc,_,hl,_,hm,_,hi⟩
 ·simp only [Value.cells,List.cons.injEq,and_true] at hc
  simp at hc
  obtain ⟨rfl,rfl,rfl⟩:=hc
  exact ⟨[],by simp only [RepD]; exact ⟨none,0,rfl,Nat.le_refl _,.inl rfl⟩⟩
 ·simp [Value.cells] at hc
  obtain ⟨rfl,rfl,rfl⟩:=hc
  have hsz:Tryz.prog.cellsOf 3=1:=by
   have:(Tryz.prog.cellsOf 3==1)=true:=by kernel_rfl
   simpa using this
  obtain ⟨l,_,hr⟩:=sl_rep (w:=W) (a:=a') (len:=len) (cap:=cap) (sz:=1) (fun n:Int=>[Go.Ab.D.int .i64 n]) hl (fun _=>rfl) (by decide) fun i hlt=>by
   obtain ⟨cs,hc,ht⟩:=hi i (by rw [hm]; split <;> omega)
   rw [hsz] at hc
   obtain ⟨_,hcl,hat⟩:=World.cells?_some hc
   obtain ⟨k,e0,_,_⟩:=DataW.trod_int (k:=.i64) (by kernel_rfl) ht
   subst e0
   refine ⟨k,fun j c hj=>?_⟩
   have hj0:j=0:=by
    have:=(List.getElem?_eq_some_iff.1 hj).1
    simpa using this
   subst hj0
   cases hj
   refine ⟨.int .i64 k,?_,by simp only [RepD]⟩
   rw [← Go.Deep.add_add,hat 0 (by decide)]; rfl
  exact ⟨l,hr⟩
theorem cellsV:Tryz.prog.cellsOf 79=3:=by
 have:(Tryz.prog.cellsOf 79==3)=true:=by kernel_rfl
 simpa using this
theorem v_read {H:Type} {enc:TypeId×Value→H} {W:World} {base:Nat} {spare:Nat→Bool} {held:Bool} {n:Nat} {cs:List Value} {x:DataW H×List MemPlace} (h:DataW.trod enc Tryz.prog W base spare held n 79 cs=some x) (hc:cs.length=3) :
  ∃ e:V,RepL (memOf W) cs e.c:=by
 obtain ⟨c0,c1,c2,rfl⟩:∃ c0 c1 c2,cs=[c0,c1,c2]:=by
  match cs,hc with
  | [c0,c1,c2],_=>exact ⟨c0,c1,c2,rfl⟩
 obtain ⟨ys,n',hn',_,_,hyl,hf⟩:=DataW.trod_struct Tryz.underlying79 h
 have hl:ys.length=3:=hyl
 have yy:∀ i (hi:i<3),ys[i]?=some (ys[i]'(by omega)):=fun i hi=>List.getElem?_eq_getElem _
 have h0:DataW.trod enc Tryz.prog W base spare held n' 3 (([c0,c1,c2].drop 0).take (Tryz.prog.cellsOf 3))=ys[0]?:=hf 0 _ rfl
 have h1:DataW.trod enc Tryz.prog W base spare held n' 2 (([c0,c1,c2].drop 1).take (Tryz.prog.cellsOf 2))=ys[1]?:=hf 1 _ rfl
 have h2:DataW.trod enc Tryz.prog W base spare held n' 9 (([c0,c1,c2].drop 2).take (Tryz.prog.cellsOf 9))=ys[2]?:=hf 2 _ rfl
 simp only [cells1 (t:=3) (by kernel_rfl),cells1 (t:=2) (by kernel_rfl),cells1 (t:=9) (by kernel_rfl),List.drop_zero,List.drop_succ_cons,List.take_succ_cons,List.take_zero] at h0 h1 h2
 obtain ⟨k,rfl⟩:=int_read (by kernel_rfl) (h0.trans (yy 0 (by omega)))
 obtain ⟨m,rfl⟩:=int_read (by kernel_rfl) (h1.trans (yy 1 (by omega)))
 obtain ⟨s,r2⟩:=str_read (by kernel_rfl) (h2.trans (yy 2 (by omega)))
 exact ⟨⟨k,m,s⟩,by simp only [RepD],by simp only [RepD],r2,trivial⟩
theorem row_read {H:Type} {enc:TypeId×Value→H} {W:World} {base:Nat} {spare:Nat→Bool} {held:Bool} {n:Nat} {cs:List Value} {x:DataW H×List MemPlace} (h:DataW.trod enc Tryz.prog W base spare held n 71 cs=some x) (hc:cs.length=1) :
  ∃ e:List V,e.length≤9223372036854775807∧RepL (memOf W) cs (rowD e):=by
 obtain ⟨c0,rfl⟩:∃ c0,cs=[c0]:=by
  match cs,hc with
  | [c0],_=>exact ⟨c0,rfl⟩
 obtain ⟨l,l1,_,r⟩:=slice_read V.c (fun _=>True) (e:=79) (by kernel_rfl) cellsV (fun _=>rfl) (by decide) h fun n2 hn2 cs y ht hcl=>by
  obtain ⟨u,hu⟩:=v_read ht hcl
  exact ⟨u,trivial,hu⟩
 exact ⟨l,l1,r,trivial⟩
theorem tab_read {H:Type} {enc:TypeId×Value→H} {W:World} {base:Nat} {spare:Nat→Bool} {held:Bool} {n:Nat} {cs:List Value} {x:DataW H×List MemPlace} (h:DataW.trod enc Tryz.prog W base spare held n 49 cs=some x) (hc:cs.length=1) :
  ∃ e:List (List V),(e.length≤9223372036854775807∧∀ r∈e,r.length≤9223372036854775807)∧RepL (memOf W) cs (tabD e):=by
 obtain ⟨c0,rfl⟩:∃ c0,cs=[c0]:=by
  match cs,hc with
  | [c0],_=>exact ⟨c0,rfl⟩
 obtain ⟨l,l1,l2,r⟩:=slice_read rowD (fun r=>r.length≤9223372036854775807) (e:=71) (by kernel_rfl) (cells1 (by kernel_rfl)) (fun _=>rfl) (by decide) h fun n2 hn2 cs y ht hcl=>row_read ht hcl
 exact ⟨l,⟨l1,l2⟩,r,trivial⟩
theorem inst_open {H:Type} {enc:TypeId×Value→H} {W:World} {base:Nat} {r:Reach} {b0:Nat} {spare:Nat→Bool} {held:Bool} {v:Value} {d:DataW H} {p:List MemPlace}
  (hv:Value.okWide Tryz.prog W r b0 48 v) (h:DataW.Trod enc Tryz.prog W base spare held 48 v d p) :
  ∃ I:List (List (List V)),(I.length≤9223372036854775807∧∀ t∈I,t.length≤9223372036854775807∧∀ r∈t,r.length≤9223372036854775807)∧RepA ⟨memOf W,fun _=>none⟩ v (instA I):=by
 obtain ⟨cs,rfl,hsz⟩:=okWide_struct Tryz.underlying48 hv
 obtain ⟨n,h⟩:=h
 have hl:cs.toList.length=1:=by simpa [cells1 (t:=48) (by kernel_rfl)] using hsz
 have h':DataW.trod enc Tryz.prog W base spare held n 48 cs.toList=some (d,p):=h
 obtain ⟨c0,hc0⟩:∃ c0,cs.toList=[c0]:=by
  match cs.toList,hl with
  | [c0],_=>exact ⟨c0,rfl⟩
 rw [hc0] at h'
 obtain ⟨ys,n',hn',_,_,hyl,hf⟩:=DataW.trod_struct Tryz.underlying48 h'
 have hyl1:ys.length=1:=hyl
 have h0:DataW.trod enc Tryz.prog W base spare held n' 46 (([c0].drop 0).take (Tryz.prog.cellsOf 46))=ys[0]?:=hf 0 _ rfl
 simp only [cells1 (t:=46) (by kernel_rfl),List.drop_zero,List.take_succ_cons,List.take_zero] at h0
 obtain ⟨I,l1,l2,hr⟩:=slice_read tabD (fun t=>t.length≤9223372036854775807∧∀ r∈t,r.length≤9223372036854775807) (e:=49) (by kernel_rfl) (cells1 (by kernel_rfl)) (fun _=>rfl) (by decide) (h0.trans (List.getElem?_eq_getElem (by omega))) fun n2 hn2 cs y ht hcl=>tab_read ht hcl
 refine ⟨I,⟨l1,l2⟩,?_⟩
 simp only [instA,RepA]
 exact ⟨cs.toList,rfl,by rw [hc0]; exact RepL_as (cs:=[.sl (I.map tabD)]) ⟨hr,trivial⟩⟩
end Go.Proofs.YtklnfckiabhceaaGreatDoor
