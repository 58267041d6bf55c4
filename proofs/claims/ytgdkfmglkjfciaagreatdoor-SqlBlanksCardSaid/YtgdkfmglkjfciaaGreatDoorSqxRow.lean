import Derived.Test.YtgdkfmglkjfciaaGreatDoorPSqp
import Derived.Test.YtgdkfmglkjfciaaGreatDoorAbB
import Derived.Lib.SmallJoins
import Derived.LaidMore
import Derived.ChangeMaps5
import Derived.Stop.Joined
import Derived.HandedShaped
import Derived.Shelf.Vars
import Derived.SevenTiedAt
import Derived.Test.YtgdkfmglkjfciaaGreatDoorRows
import Derived.Test.YtgdkfmglkjfciaaGreatDoorChecked
import Derived.Test.YtgdkfmglkjfciaaGreatDoorTie
import Derived.Test.YtgdkfmglkjfciaaGreatDoorCards
set_option linter.all false
namespace Go.Proofs.YtgdkfmglkjfciaaGreatDoor
open Go Go.ChangeMaps Go.ChangeShapes Go.WideShapes Go.ChangeAt Go.RowKit Go.Ab Go.Proofs.Tryz
set_option maxRecDepth 100000
theorem trod_iface {H:Type} {enc:TypeId×Value→H} {P:Program} {w:World} {base:Nat} {spare:Nat→Bool} {f:Nat} {t:TypeId} {cs:List Value} {n:String} {d:DataW H} {p:List MemPlace}
  (h:DataW.trod enc P w base spare false f t cs=some (.iface n d,p)):∃ u v,cs=[.iface u v]:=by
 cases f with
 | zero=>simp [DataW.trod] at h
 | succ f =>
   unfold DataW.trod at h
   split at h <;> first
    | exact ⟨_,_,rfl⟩
    | (simp [Option.bind_eq_some_iff,Option.map_eq_some_iff] at h; done)
    | (split at h <;> simp [Option.bind_eq_some_iff,Option.map_eq_some_iff] at h; done)
    | (exfalso; split at h
       ·split at h
        ·rw [Option.bind_eq_some_iff] at h
         obtain ⟨_,_,h⟩:=h
         simp only at h
         split at h <;> simp at h
        ·cases h
       ·cases h)
theorem laid_iface {P:Program} {w:World} {name:String} {g f:Nat} {t:TypeId} {cs:Array Value} {d:DataW Unit} {p:List MemPlace} {n:String} {en:TypeId×Value→Unit} {base:Nat} {spare:Nat→Bool}
  (hg:P.globalNamed name=some g) (hv:w.var? P name=some cs) (hd:DataW.trod en P w base spare false f t cs.toList=some (.iface n d,p)) :
  RepCells (memOf w) g 0 [.any isErrS]∧∃ a ety z,w.heap[g]?=some (.cells a ety z)∧a.size=1:=by
 obtain ⟨u,v,e⟩:=trod_iface hd
 have hs:cs.size=1:=by rw [← Array.length_toList,e]; rfl
 refine ⟨RepL_cells (l:=[.iface u v]) ⟨?_,trivial⟩ fun i x hi=>?_,?_⟩
 ·simp [RepD,isErrS,Value.oneCell']
 ·unfold memOf
  rw [World.var?_cell hg hv,Nat.zero_add,← Array.getElem?_toList,e]
  exact hi
 ·simp only [World.var?,hg,Option.bind_some] at hv
  split at hv
  ·rename_i a ety z h
   simp only [Option.some.injEq] at hv
   subst hv
   exact ⟨_,_,_,h,by simpa using hs⟩
  ·cases hv
theorem own:ownKnob Tryz.prog.godebug=none:=by kernel_rfl
theorem laidOut:laidOutB Tryz.prog=true:=by kernel_rfl
theorem gNull : Tryz.prog.globalNamed "querylab/value.null" = some 0 := by kernel_rfl
theorem tNull:(Tryz.prog.globals[0]?).map (·.type)=some 92:=by kernel_rfl
theorem gSyn : Tryz.prog.globalNamed "strconv.ErrSyntax" = some 2 := by kernel_rfl
theorem gRan : Tryz.prog.globalNamed "strconv.ErrRange" = some 3 := by kernel_rfl
theorem tPow:(Tryz.prog.globals[4]?).map (·.type)=some 147:=by kernel_rfl
theorem maxLen_cell {W:World} (hs:W.ShapedOpen Tryz.prog):RepCells (memOf W) 1 0 [.any isI64]∧∃ a ety z,W.heap[1]?=some (.cells a ety z)∧a.size=1:=by
 obtain ⟨m,hm⟩:=Go.Proofs.cell_of_shapedOpen_int (g:=1) (zero:=#[.int .i64 0]) (t:=3) hs (of_decide_eq_true (by kernel_rfl)) (by kernel_rfl) rfl (by kernel_rfl) (by kernel_rfl) Tryz.underlying3
 obtain ⟨cs,hh,hz,_⟩:=hs.1 1 #[.int .i64 0] 3 (of_decide_eq_true (by kernel_rfl)) (by kernel_rfl)
 refine ⟨?_,cs,3,(0,0),hh,hz⟩
 simp only [RepCells,RepD]
 exact ⟨⟨.int .i64 m,hm,⟨m,rfl⟩,rfl⟩,trivial⟩
theorem is_open {H:Type} {enc:TypeId×Value→H} {W:World} {base:Nat} {spare:Nat→Bool} {held:Bool} {r:Reach} {b0:Nat} {v:Value} {d:DataW H} {p:List MemPlace}
  (hv:Value.okWide Tryz.prog W r b0 22 v) (h:DataW.Trod enc Tryz.prog W base spare held 22 v d p) :
  ∃ l:List Int,RepD (memOf W) v (.sl (l.map fun n=>[.int .i64 n])):=by
 obtain ⟨a,len,cap,rfl⟩:=okWide_slice (e:=3) (by kernel_rfl) hv
 obtain ⟨fuel,h⟩:=h
 rcases Go.Deep.open_slice (e:=3) (by kernel_rfl) h with ⟨hc,_⟩ | ⟨a',len',cap',m,n,D,Pl,hc,_,hl,_,hm,_,hi⟩
 ·simp only [Value.cells,List.cons.injEq,and_true] at hc
  simp at hc
  obtain ⟨rfl,rfl,rfl⟩:=hc
  exact ⟨[],by simp only [RepD]; exact ⟨none,0,rfl,Nat.le_refl _,.inl rfl⟩⟩
 ·simp [Value.cells] at hc
  obtain ⟨rfl,rfl,rfl⟩:=hc
  have hsz:Tryz.prog.cellsOf 3=1:=by
   have:(Tryz.prog.cellsOf 3==1)=true:=by kernel_rfl
   simpa using this
  obtain ⟨l,_,hr⟩:=sl_rep (w:=W) (a:=a') (len:=len) (cap:=cap) (sz:=1) (fun n:Int=>[Go.Ab.D.int .i64 n]) hl (fun _=>rfl) (by decide) fun i hlt=>by
   obtain ⟨cs,hc,ht⟩:=hi i (by rw [hm]; split <;> omega)
   rw [hsz] at hc
   obtain ⟨_,hcl,hat⟩:=World.cells?_some hc
   obtain ⟨k,e0,_,_⟩:=DataW.trod_int (k:=.i64) (by kernel_rfl) ht
   subst e0
   refine ⟨k,fun j c hj=>?_⟩
   have hj0:j=0:=by
    have:=(List.getElem?_eq_some_iff.1 hj).1
    simpa using this
   subst hj0
   cases hj
   refine ⟨.int .i64 k,?_,by simp only [RepD]⟩
   rw [← Go.Deep.add_add,hat 0 (by decide)]; rfl
  exact ⟨l,hr⟩
def laid6 : List (String × DataW Unit) := [("math/bits.deBruijn32tab", Rows.laid_math_bits_deBruijn32tab), ("math/bits.deBruijn64tab", Rows.laid_math_bits_deBruijn64tab), ("internal/strconv.uint64pow10", Rows.laid_internal_strconv_uint64pow10), ("strconv.ErrRange", Rows.laid_strconv_ErrRange), ("strconv.ErrSyntax", Rows.laid_strconv_ErrSyntax), ("querylab/value.null", Rows.laid_querylab_value_null)]
theorem of_laid6 {W:World} (h:laidMetH Tryz.prog laid6 W) (hs:W.ShapedOpen Tryz.prog):∀ g cs,Es.G g=some cs→RepCells (memOf W) g 0 cs∧∃ a ety z,W.heap[g]?=some (.cells a ety z)∧a.size=cs.length:=by
 rw [MakeChecks.laidMetH_plain _ _ _ (by kernel_rfl)] at h
 obtain ⟨ps,⟨_,_,_,_,_,_,_,_,_,_,⟨_,_,_,_,_,_,_,_,_,_,⟨g4,t4,cs4,f4,p4,q4,hg4,ht4,hv4,hd4,⟨g3,t3,cs3,f3,p3,q3,hg3,ht3,hv3,hd3,⟨g2,t2,cs2,f2,p2,q2,hg2,ht2,hv2,hd2,⟨g0,t0,cs0,f0,p0,q0,hg0,ht0,hv0,hd0,_,_⟩,_⟩,_⟩,_⟩,_⟩,_⟩,_,_⟩:=h
 obtain rfl:=Option.some.inj (gNull.symm.trans hg0)
 obtain rfl:=Option.some.inj (tNull.symm.trans ht0)
 obtain rfl:=Option.some.inj (gPow.symm.trans hg4)
 obtain rfl:=Option.some.inj (tPow.symm.trans ht4)
 obtain rfl:=Option.some.inj (gSyn.symm.trans hg2)
 obtain rfl:=Option.some.inj (gRan.symm.trans hg3)
 intro g cs hg
 rw [Es_G,esG] at hg
 split at hg
 ·rename_i e
  subst e
  cases hg
  exact ⟨laid_rep (m:=3) gNull hv0 hd0 (by kernel_rfl),laid_size (m:=3) gNull hv0 hd0 (by kernel_rfl)⟩
 ·split at hg
  ·rename_i e
   cases hg
   rcases e with rfl | rfl
   ·exact laid_iface gSyn hv2 hd2
   ·exact laid_iface gRan hv3 hd3
  ·split at hg
   ·rename_i e
    subst e
    cases hg
    exact ⟨laid_rep (m:=3) gPow hv4 hd4 (by kernel_rfl),laid_size (m:=3) gPow hv4 hd4 (by kernel_rfl)⟩
   ·split at hg
    ·rename_i e
     subst e
     cases hg
     exact maxLen_cell hs
    ·cases hg
theorem door6 (os:Os) (args:Array Value):laidMetH Tryz.prog laid6 ((World.doorLaid Tryz.prog 400 os).forCall (fun _ _=>0) ⟨#[],args,[]⟩).memory :=
 laidMetH_of_parts3 (fuel:=8) (laidMet_of_run' 8 (by kernel_rfl) (by kernel_rfl)) (by kernel_rfl) (by kernel_rfl)
theorem lifted_shaped {H:Type} {enc:TypeId×Value→H} {a:Assume} {C:Checked} {os:Os} {f:FuncId} {fn:Func} {s:ChangeSpec} {conds:List PathCond} {apart fresh handsOn again:Bool} {X:World→Array Value→Prop}
  (hX:∀ (w w':World) (args:Array Value),w.heap=w'.heap→X w args→X w' args)
  (own:ownKnob C.prog.godebug=none) (started:os.Started) (noInit:C.prog.inits.idxOf? f=none) (hfn:C.prog.funcs[f]?=some fn)
  (witness:∃ (w:World) (tape:Tape) (i:Input),w.os=os∧(w.forCall tape i).Shaped C.prog∧i.vars=[]∧Input.okWide C.prog (w.forCall tape i) .any w.heap.size f i ∧
   ((s.pre enc C.prog fn conds apart (w.forCall tape i).memory i.args∧X (w.forCall tape i).memory i.args)∧sizedMet enc C.prog fn (OpenSpec.ofChange s) apart (w.forCall tape i).memory i.args)∧a.holds C.prog (lone (Frame.enter C.prog f i.args .normal) [] (w.forCall tape i)))
  (contract:∀ (W:World) (base:Nat) (args:Array Value) (ds gs:List (DataW H)) (before:List MemPlace),
   (∀ (j:Nat) t v,fn.params[j]?=some t→args[j]?=some v→Value.okWide C.prog W .any base t v) →
   DataW.Whole enc C.prog fn.params.toList s.vars apart W args.toList ds gs before →
   W.ShapedOpen C.prog→X W args →
   Calls C.prog f args W fun e W'=>∃ v,e=.returned v∧s.post enc C.prog fn apart fresh handsOn again W args v W') :
  ReturnsInHanded a C os f .any (fun w args=>(s.pre enc C.prog fn conds apart w args∧X w args)∧sizedMet enc C.prog fn (OpenSpec.ofChange s) apart w args) (s.post enc C.prog fn apart fresh handsOn again):=by
 refine returnsInHanded_of_calls own started noInit witness ?_
 intro w tape i _ hsh _ hok hpre hholds
 obtain ⟨_,_,_,fn',hfn',_,_,_,_,hval⟩:=hok
 have e:fn'=fn:=Option.some.inj (hfn'.symm.trans hfn)
 subst e
 obtain ⟨⟨⟨ds,gs,before,hw,hc⟩,hx⟩,hz⟩:=hpre
 have hw':=DataW.Whole.of_heap (w':=w.forCall tape i) (by rfl) hw
 refine (contract (w.forCall tape i) w.heap.size i.args ds gs before hval hw' hsh (hX _ _ _ (by rfl) hx)).mono fun e W' ⟨v,he,hp⟩=>?_
 subst he
 exact ChangeSpec.post_blind hp
end Go.Proofs.YtgdkfmglkjfciaaGreatDoor
