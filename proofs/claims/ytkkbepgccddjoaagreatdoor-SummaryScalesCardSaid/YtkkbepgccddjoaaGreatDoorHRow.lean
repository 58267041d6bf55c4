import Derived.Test.YtkkbepgccddjoaaGreatDoorCSmc
import Derived.Test.YtkkbepgccddjoaaGreatDoorCEnvR
import Derived.Test.YtkkbepgccddjoaaGreatDoorAbB
import Derived.Lib.SmallJoins
import Derived.LaidMore
import Derived.Stop.Joined
import Derived.Deep.Slices
import Derived.ChangeMaps5
import Derived.HandedShaped
import Derived.Shelf.Vars
import Derived.Test.YtkkbepgccddjoaaGreatDoorRows
import Derived.Test.YtkkbepgccddjoaaGreatDoorChecked
set_option linter.all false
namespace Go.Proofs.YtkkbepgccddjoaaGreatDoor
open Go.ChangeShapes Go.WideShapes Go.ChangeAt Go.RowKit Go.Ab Go.Proofs.Tryz
set_option maxRecDepth 100000
theorem own:ownKnob Tryz.prog.godebug=none:=by kernel_rfl
theorem JV:laidOutB Tryz.prog=true:=by kernel_rfl
theorem aBf : Tryz.prog.globalNamed "querylab/value.null" = some 1 := by kernel_rfl
theorem aHG:(Tryz.prog.globals[1]?).map (·.type)=some 92:=by kernel_rfl
theorem aFX : Tryz.prog.globalNamed "querylab/expression.operations" = some 0 := by kernel_rfl
theorem aIX:(Tryz.prog.globals[0]?).map (·.type)=some 235:=by kernel_rfl
theorem NT {W:World} (hs:W.ShapedOpen Tryz.prog):dF (rL W) 2 0 [.any aAW]∧∃ a ety z,W.heap[2]?=some (.cells a ety z)∧a.size=1:=by
 obtain ⟨m,hm⟩:=Go.Proofs.cell_of_shapedOpen_int (g:=2) (zero:=#[.int .i64 0]) (t:=3) hs (of_decide_eq_true (by kernel_rfl)) (by kernel_rfl) rfl (by kernel_rfl) (by kernel_rfl) Tryz.underlying3
 obtain ⟨cs,hh,hz,_⟩:=hs.1 2 #[.int .i64 0] 3 (of_decide_eq_true (by kernel_rfl)) (by kernel_rfl)
 refine ⟨?_,cs,3,(0,0),hh,hz⟩
 simp only [dF,aY]
 exact ⟨⟨.int .i64 m,hm,⟨m,rfl⟩,rfl⟩,trivial⟩
def rS : List (String × DataW Unit) := [("querylab/value.null", Rows.laid_querylab_value_null), ("querylab/expression.operations", Rows.laid_querylab_expression_operations)]
theorem DB {W:World} (h:laidMetH Tryz.prog rS W) (hs:W.ShapedOpen Tryz.prog):∀ g cs,Es.G g=some cs→dF (rL W) g 0 cs∧∃ a ety z,W.heap[g]?=some (.cells a ety z)∧a.size=cs.length:=by
 rw [MakeChecks.laidMetH_plain _ _ _ (by kernel_rfl)] at h
 obtain ⟨ps,⟨g0,t0,cs0,f0,p0,q0,hg0,ht0,hv0,hd0,⟨g1,t1,cs1,f1,p1,q1,hg1,ht1,hv1,hd1,_,_⟩,_⟩,_,_⟩:=h
 obtain rfl:=Option.some.inj (aBf.symm.trans hg0)
 obtain rfl:=Option.some.inj (aHG.symm.trans ht0)
 obtain rfl:=Option.some.inj (aFX.symm.trans hg1)
 obtain rfl:=Option.some.inj (aIX.symm.trans ht1)
 intro g cs hg
 rw [aHA,esG] at hg
 split at hg
 ·rename_i e
  subst e
  cases hg
  exact ⟨LW (m:=3) aBf hv0 hd0 (by kernel_rfl),FS (m:=3) aBf hv0 hd0 (by kernel_rfl)⟩
 ·split at hg
  ·rename_i e
   subst e
   cases hg
   exact ⟨LW (m:=4) aFX hv1 hd1 (by kernel_rfl),FS (m:=4) aFX hv1 hd1 (by kernel_rfl)⟩
  ·split at hg
   ·rename_i e
    subst e
    cases hg
    exact NT hs
   ·cases hg
theorem aBg (os:Os) (args:Array Value):laidMetH Tryz.prog rS ((World.doorLaid Tryz.prog 400 os).forCall (fun _ _=>0) ⟨#[],args,[]⟩).memory :=
 laidMetH_of_parts3 (fuel:=8) (laidMet_of_run' 8 (by kernel_rfl) (by kernel_rfl)) (by kernel_rfl) (by kernel_rfl)
theorem nV {H:Type} {enc:TypeId×Value→H} {a:Assume} {C:Checked} {os:Os} {f:FuncId} {fn:Func} {s:ChangeSpec} {conds:List PathCond} {apart fresh handsOn again:Bool} {X:World→Array Value→Prop}
  (hX:∀ (w w':World) (args:Array Value),w.heap=w'.heap→X w args→X w' args)
  (own:ownKnob C.prog.godebug=none) (started:os.Started) (noInit:C.prog.inits.idxOf? f=none) (hfn:C.prog.funcs[f]?=some fn)
  (witness:∃ (w:World) (tape:Tape) (i:Input),w.os=os∧(w.forCall tape i).Shaped C.prog∧i.vars=[]∧Input.okWide C.prog (w.forCall tape i) .any w.heap.size f i ∧
   ((s.pre enc C.prog fn conds apart (w.forCall tape i).memory i.args∧X (w.forCall tape i).memory i.args)∧sizedMet enc C.prog fn (OpenSpec.ofChange s) apart (w.forCall tape i).memory i.args)∧a.holds C.prog (lone (Frame.enter C.prog f i.args .normal) [] (w.forCall tape i)))
  (contract:∀ (W:World) (base:Nat) (args:Array Value) (ds gs:List (DataW H)) (before:List MemPlace),
   (∀ (j:Nat) t v,fn.params[j]?=some t→args[j]?=some v→Value.okWide C.prog W .any base t v) →
   DataW.Whole enc C.prog fn.params.toList s.vars apart W args.toList ds gs before →
   W.ShapedOpen C.prog→X W args →
   Calls C.prog f args W fun e W'=>∃ v,e=.returned v∧s.post enc C.prog fn apart fresh handsOn again W args v W') :
  ReturnsInHanded a C os f .any (fun w args=>(s.pre enc C.prog fn conds apart w args∧X w args)∧sizedMet enc C.prog fn (OpenSpec.ofChange s) apart w args) (s.post enc C.prog fn apart fresh handsOn again):=by
 refine returnsInHanded_of_calls own started noInit witness ?_
 intro w tape i _ hsh _ hok hpre hholds
 obtain ⟨_,_,_,fn',hfn',_,_,_,_,hval⟩:=hok
 have e:fn'=fn:=Option.some.inj (hfn'.symm.trans hfn)
 subst e
 obtain ⟨⟨⟨ds,gs,before,hw,hc⟩,hx⟩,hz⟩:=hpre
 have hw':=DataW.Whole.of_heap (w':=w.forCall tape i) (by rfl) hw
 refine (contract (w.forCall tape i) w.heap.size i.args ds gs before hval hw' hsh (hX _ _ _ (by rfl) hx)).mono fun e W' ⟨v,he,hp⟩=>?_
 subst he
 exact ChangeSpec.post_blind hp
theorem JW {H:Type} {enc:TypeId×Value→H} {W:World} {base:Nat} {spare:Nat→Bool} {held:Bool} {r:Reach} {b0:Nat} {v:Value} {d:DataW H} {p:List MemPlace}
  (hv:Value.okWide Tryz.prog W r b0 22 v) (h:DataW.Trod enc Tryz.prog W base spare held 22 v d p) :
  ∃ l:List Int,aY (rL W) v (.sl (aD l)):=by
 obtain ⟨a,len,cap,rfl⟩:=okWide_slice (e:=3) (by kernel_rfl) hv
 obtain ⟨fuel,h⟩:=h
 rcases Go.Deep.open_slice (e:=3) (by kernel_rfl) h with ⟨hc,_⟩ | ⟨a',len',cap',m,n,D,Pl,hc,_,hl,_,hm,_,hi⟩
 ·simp only [Value.cells,List.cons.injEq,and_true] at hc
  simp at hc
  obtain ⟨rfl,rfl,rfl⟩:=hc
  exact ⟨[],by simp only [aY]; exact ⟨none,0,rfl,Nat.le_refl _,.inl rfl⟩⟩
 ·simp [Value.cells] at hc
  obtain ⟨rfl,rfl,rfl⟩:=hc
  have hsz:Tryz.prog.cellsOf 3=1:=by
   have:(Tryz.prog.cellsOf 3==1)=true:=by kernel_rfl
   simpa using this
  obtain ⟨l,_,hr⟩:=aFC (w:=W) (a:=a') (len:=len) (cap:=cap) (sz:=1) (fun n:Int=>[Go.Ab.D.int .i64 n]) hl (fun _=>rfl) (by decide) fun i hlt=>by
   obtain ⟨cs,hc,ht⟩:=hi i (by rw [hm]; split <;> omega)
   rw [hsz] at hc
   obtain ⟨_,hcl,hat⟩:=World.cells?_some hc
   obtain ⟨k,e0,_,_⟩:=DataW.trod_int (k:=.i64) (by kernel_rfl) ht
   subst e0
   refine ⟨k,fun j c hj=>?_⟩
   have hj0:j=0:=by
    have:=(List.getElem?_eq_some_iff.1 hj).1
    simpa using this
   subst hj0
   cases hj
   refine ⟨.int .i64 k,?_,by simp only [aY]⟩
   rw [← Go.Deep.add_add,hat 0 (by decide)]; rfl
  exact ⟨l,hr⟩
end Go.Proofs.YtkkbepgccddjoaaGreatDoor
