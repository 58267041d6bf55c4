import Derived.Test.YthpmjipkofbeiaaGreatDoorURut
set_option linter.all false
namespace Go.Proofs.YthpmjipkofbeiaaGreatDoor
open Go Go.ChangeMaps Go.ChangeShapes Go.WideShapes Go.ChangeAt Go.RowKit Go.Ab Go.Proofs.Tryz
set_option maxRecDepth 100000
theorem aGn:Tryz.prog.cellsOf 9=1:=aBm (by kernel_rfl)
theorem aDL {W:World} {name:String} {g f:Nat} {cs:Array Value} {l:List (List UInt8)} {p:List MemPlace} {en:TypeId×Value→Unit} {base:Nat} {spare:Nat→Bool}
  (hg:Tryz.prog.globalNamed name=some g) (hv:W.var? Tryz.prog name=some cs) (hd:DataW.trod en Tryz.prog W base spare false f 52 cs.toList=some (.slice (l.map fun s=>.lit (.string s)) [],p)) :
  dT (iH W) g 0 [.sl (l.map fun s=>[.str s])]∧∃ a ety z,W.heap[g]?=some (.cells a ety z)∧a.size=1:=by
 rcases DataW.trod_slice (e:=9) (by kernel_rfl) hd with ⟨_,hx⟩ | ⟨a,len,cap,elems,rest,n2,hn2,hc,hx,_,hlc,hcm,hel,hi,_,_⟩
 ·cases hx
 ·have hes:elems.map (·.1)=l.map fun s=>.lit (.string s):=by
   have:=congrArg Prod.fst hx
   simp only [DataW.slice.injEq] at this
   exact this.1.symm
  have hll:l.length=len:=by
   have:=congrArg List.length hes
   simp only [List.length_map] at this
   omega
  obtain ⟨l',hl',hR,hr⟩:=aBA (w:=W) (a:=a) (len:=len) (cap:=cap) (sz:=1) (α:=List UInt8) (fun s=>[D.str s]) (fun i s=>l[i]?=some s) hlc (fun _=>rfl) (by decide) fun i hlt=>by
   have hi':=hi i hlt
   have hge:elems[i]?=some (elems[i]'(by omega)):=gE _
   rw [hge,Option.bind_eq_some_iff] at hi'
   obtain ⟨c,hcs,ht⟩:=hi'
   rw [aGn] at hcs
   obtain ⟨_,hcl,hat⟩:=World.cells?_some hcs
   obtain ⟨k,e0,hx0,_⟩:=DataW.trod_string (by kernel_rfl) ht
   subst e0
   refine ⟨k.data.toList,?_,fun j x hj=>?_⟩
   ·have h1:(elems.map (·.1))[i]?=some (.lit (.string k.data.toList)):=by rw [List.getElem?_map,hge,hx0]; rfl
    rw [hes,List.getElem?_map,Option.map_eq_some_iff] at h1
    obtain ⟨s,hs,hse⟩:=h1
    simp only [DataW.lit.injEq,Lit.string.injEq] at hse
    rw [hs,hse]
   ·have hj0:j=0:=by
     have:=(List.getElem?_eq_some_iff.1 hj).1
     simpa using this
    subst hj0
    cases hj
    refine ⟨.string k,?_,by simp [aU]⟩
    rw [← Go.Deep.add_add,hat 0 (by decide)]; rfl
  have hle:l'=l:=by
   apply List.ext_getElem?
   intro i
   by_cases hi:i<len
   ·rw [hR i l'[i] (gE (by omega)),gE (by omega)]
   ·rw [List.getElem?_eq_none (by omega),List.getElem?_eq_none (by omega)]
  subst hle
  have hsz:cs.size=1:=by rw [← Array.length_toList,hc]; rfl
  refine ⟨tG (l:=[.slice (some a) len cap]) ⟨hr,trivial⟩ fun i x hi=>?_,?_⟩
  ·unfold iH
   rw [World.var?_cell hg hv,Nat.zero_add,← Array.getElem?_toList,hc]
   exact hi
  ·simp only [World.var?,hg,Option.bind_some] at hv
   split at hv
   ·rename_i a ety z h
    simp only [Option.some.injEq] at hv
    subst hv
    exact ⟨_,_,_,h,by simpa using hsz⟩
   ·cases hv
theorem aNw : Tryz.prog.globalNamed "querylab/sql.joins" = some 2 := by kernel_rfl
theorem aOH:(Tryz.prog.globals[2]?).map (·.type)=some 52:=by kernel_rfl
def aGo : List (String × DataW Unit) := aNv ++ [("querylab/sql.joins", Rows.laid_querylab_sql_joins)]
theorem aDM {W:World} (h:laidMetH Tryz.prog aGo W) (hs:W.ShapedOpen Tryz.prog):∀ g cs,Ej.G g=some cs→dT (iH W) g 0 cs∧∃ a ety z,W.heap[g]?=some (.cells a ety z)∧a.size=cs.length:=by
 rw [MakeChecks.laidMetH_plain _ _ _ (by kernel_rfl)] at h
 obtain ⟨ps,⟨_,_,_,_,_,_,_,_,_,_,⟨_,_,_,_,_,_,_,_,_,_,⟨g2,t2,cs2,f2,p2,q2,hg2,ht2,hv2,hd2,⟨g3,t3,cs3,f3,p3,q3,hg3,ht3,hv3,hd3,⟨g4,t4,cs4,f4,p4,q4,hg4,ht4,hv4,hd4,⟨g5,t5,cs5,f5,p5,q5,hg5,ht5,hv5,hd5,⟨g6,t6,cs6,f6,p6,q6,hg6,ht6,hv6,hd6,⟨g7,t7,cs7,f7,p7,q7,hg7,ht7,hv7,hd7,⟨g8,t8,cs8,f8,p8,q8,hg8,ht8,hv8,hd8,⟨g9,t9,cs9,f9,p9,q9,hg9,ht9,hv9,hd9,_,_⟩,_⟩,_⟩,_⟩,_⟩,_⟩,_⟩,_⟩,_⟩,_⟩,_,_⟩:=h
 obtain rfl:=Option.some.inj (aJp.symm.trans hg2)
 obtain rfl:=Option.some.inj (aOE.symm.trans ht2)
 obtain rfl:=Option.some.inj (aNt.symm.trans hg3)
 obtain rfl:=Option.some.inj (aNs.symm.trans hg4)
 obtain rfl:=Option.some.inj (aGl.symm.trans hg5)
 obtain rfl:=Option.some.inj (aNr.symm.trans ht5)
 obtain rfl:=Option.some.inj (aGm.symm.trans hg6)
 obtain rfl:=Option.some.inj (aNu.symm.trans ht6)
 obtain rfl:=Option.some.inj (aLK.symm.trans hg7)
 obtain rfl:=Option.some.inj (aOF.symm.trans ht7)
 obtain rfl:=Option.some.inj (aLL.symm.trans hg8)
 obtain rfl:=Option.some.inj (aOG.symm.trans ht8)
 obtain rfl:=Option.some.inj (aNw.symm.trans hg9)
 obtain rfl:=Option.some.inj (aOH.symm.trans ht9)
 intro g cs hg
 rw [aMG,ejG,esG] at hg
 split at hg
 ·rename_i e
  subst e
  cases hg
  exact aDL (l:=joL) aNw hv9 hd9
 split at hg
 ·rename_i e
  subst e
  cases hg
  exact ⟨uT (m:=3) aGl hv5 hd5 (by kernel_rfl),sA (m:=3) aGl hv5 hd5 (by kernel_rfl)⟩
 split at hg
 ·rename_i e
  cases hg
  rcases e with rfl | rfl
  ·exact JW aNs hv4 hd4
  ·exact JW aNt hv3 hd3
 split at hg
 ·rename_i e
  subst e
  cases hg
  exact ⟨uT (m:=3) aJp hv2 hd2 (by kernel_rfl),sA (m:=3) aJp hv2 hd2 (by kernel_rfl)⟩
 split at hg
 ·rename_i e
  subst e
  cases hg
  exact WD hs
 split at hg
 ·rename_i e
  subst e
  cases hg
  exact ⟨uT (m:=4) aGm hv6 hd6 (by kernel_rfl),sA (m:=4) aGm hv6 hd6 (by kernel_rfl)⟩
 split at hg
 ·rename_i e
  subst e
  cases hg
  exact ⟨uT (m:=3) aLK hv7 hd7 (by kernel_rfl),sA (m:=3) aLK hv7 hd7 (by kernel_rfl)⟩
 split at hg
 ·rename_i e
  subst e
  cases hg
  exact ⟨uT (m:=3) aLL hv8 hd8 (by kernel_rfl),sA (m:=3) aLL hv8 hd8 (by kernel_rfl)⟩
 cases hg
theorem aLM (os:Os) (args:Array Value):laidMetH Tryz.prog aGo ((World.doorLaid Tryz.prog 400 os).forCall (fun _ _=>0) ⟨#[],args,[]⟩).memory :=
 laidMetH_of_parts3 (fuel:=8) (laidMet_of_run' 8 (by kernel_rfl) (by kernel_rfl)) (by kernel_rfl) (by kernel_rfl)
theorem yN:∀ l:List Sm,(∀ e∈l,e.fits)→mJ l
 | [],_=>by rw [mJ]; trivial
 | e::es,h=>by rw [mJ]; exact ⟨h e List.mem_cons_self,yN es fun x hx=>h x (List.mem_cons_of_mem _ hx)⟩
theorem JX:∀ l:List Jo,(∀ e∈l,e.fits)→iI l
 | [],_=>by rw [iI]; trivial
 | e::es,h=>by rw [iI]; exact ⟨h e List.mem_cons_self,JX es fun x hx=>h x (List.mem_cons_of_mem _ hx)⟩
theorem QS:∀ l:List Sm,rT Sm.wgt l=jK l
 | []=>rfl
 | e::es=>by rw [rT,jK,QS es]
theorem aBJ:∀ l:List Jo,rT Jo.wgt l=gG l
 | []=>rfl
 | e::es=>by rw [rT,gG,aBJ es]
theorem aBK:∀ l:List It,rT (fun i=>i.t.wgt+(i.n.length+10)) l=fU l
 | []=>rfl
 | e::es=>by rw [rT,fU,aBK es]
theorem aIW:Tryz.prog.cellsOf 72=7:=by
 have:(Tryz.prog.cellsOf 72==7)=true:=by kernel_rfl
 simpa using this
theorem aIX:Tryz.prog.cellsOf 75=5:=by
 have:(Tryz.prog.cellsOf 75==5)=true:=by kernel_rfl
 simpa using this
theorem aBL:Tryz.prog.cellsOf 40=3:=by
 have:(Tryz.prog.cellsOf 40==3)=true:=by kernel_rfl
 simpa using this
theorem QT:Tryz.prog.cellsOf 43=13:=by
 have:(Tryz.prog.cellsOf 43==13)=true:=by kernel_rfl
 simpa using this
theorem aGp {H:Type} {enc:TypeId×Value→H} {W:World} {base:Nat} {spare:Nat→Bool} {held:Bool} {n:Nat} {cs:List Value} {x:DataW H×List MemPlace} (h:DataW.trod enc Tryz.prog W base spare held n 72 cs=some x) (hc:cs.length=7) :
  ∃ e:It,e.t.fits∧e.t.wgt+(e.n.length+10)≤60*Rows.uptoBulk x.1∧rZ (iH W) cs e.c:=by
 obtain ⟨c0,c1,c2,c3,c4,c5,c6,rfl⟩:∃ c0 c1 c2 c3 c4 c5 c6,cs=[c0,c1,c2,c3,c4,c5,c6]:=by
  match cs,hc with
  | [c0,c1,c2,c3,c4,c5,c6],_=>exact ⟨c0,c1,c2,c3,c4,c5,c6,rfl⟩
 obtain ⟨ys,n',hn',hx,_,hyl,hf⟩:=DataW.trod_struct Tryz.underlying72 h
 have hl:ys.length=2:=hyl
 obtain ⟨y0,y1,rfl⟩:∃ y0 y1,ys=[y0,y1]:=by
  match ys,hl with
  | [y0,y1],_=>exact ⟨y0,y1,rfl⟩
 have h0:DataW.trod enc Tryz.prog W base spare held n' 25 (([c0,c1,c2,c3,c4,c5,c6].drop 0).take (Tryz.prog.cellsOf 25))=some y0:=hf 0 _ rfl
 have h1:DataW.trod enc Tryz.prog W base spare held n' 9 (([c0,c1,c2,c3,c4,c5,c6].drop 6).take (Tryz.prog.cellsOf 9))=some y1:=hf 1 _ rfl
 simp only [wY,aBm (t:=9) (by kernel_rfl),List.drop_zero,List.drop_succ_cons,List.take_succ_cons,List.take_zero] at h0 h1
 obtain ⟨t,ft,wt,rt⟩:=vR n' _ _ h0 rfl
 obtain ⟨s,ws,rs⟩:=sR (by kernel_rfl) h1
 refine ⟨⟨t,s⟩,ft,?_,qQ (a:=[c0,c1,c2,c3,c4,c5]) (b:=[c6]) (y:=[Go.Ab.D.str s]) rt ⟨rs,trivial⟩⟩
 rw [hx]
 simp only [Rows.uptoBulk,sS,rT]
 omega
theorem WE {H:Type} {enc:TypeId×Value→H} {W:World} {base:Nat} {spare:Nat→Bool} {held:Bool} {n:Nat} {c0 c1 c2:Value} {x:DataW H×List MemPlace}
  (ih:∀ n2,n2<n→∀ cs y,DataW.trod enc Tryz.prog W base spare held n2 43 cs=some y→cs.length=13→∃ u:Sm,u.fits∧u.wgt≤60*Rows.uptoBulk y.1∧rZ (iH W) cs u.c)
  (h:DataW.trod enc Tryz.prog W base spare held n 40 [c0,c1,c2]=some x) :
  ∃ (t:List UInt8) (q:List Sm) (n:List UInt8),(q.length≤9223372036854775807∧mJ q)∧t.length+(jK q+n.length)+60≤60*Rows.uptoBulk x.1∧aU (iH W) c0 (.str t)∧aU (iH W) c1 (.sl (q.map Sm.c))∧aU (iH W) c2 (.str n):=by
 obtain ⟨ys,n',hn',hx,_,hyl,hf⟩:=DataW.trod_struct Tryz.underlying40 h
 have hl:ys.length=3:=hyl
 obtain ⟨y0,y1,y2,rfl⟩:∃ y0 y1 y2,ys=[y0,y1,y2]:=by
  match ys,hl with
  | [y0,y1,y2],_=>exact ⟨y0,y1,y2,rfl⟩
 have h0:DataW.trod enc Tryz.prog W base spare held n' 9 (([c0,c1,c2].drop 0).take (Tryz.prog.cellsOf 9))=some y0:=hf 0 _ rfl
 have h1:DataW.trod enc Tryz.prog W base spare held n' 38 (([c0,c1,c2].drop 1).take (Tryz.prog.cellsOf 38))=some y1:=hf 1 _ rfl
 have h2:DataW.trod enc Tryz.prog W base spare held n' 9 (([c0,c1,c2].drop 2).take (Tryz.prog.cellsOf 9))=some y2:=hf 2 _ rfl
 simp only [aBm (t:=9) (by kernel_rfl),aBm (t:=38) (by kernel_rfl),List.drop_zero,List.drop_succ_cons,List.take_succ_cons,List.take_zero] at h0 h1 h2
 obtain ⟨a0,b0,r0⟩:=sR (by kernel_rfl) h0
 obtain ⟨l,l1,l2,l3,r1⟩:=iJ Sm.c Sm.fits Sm.wgt (by kernel_rfl) QT Sm.clen (by decide) h1 fun n2 hn2 cs y ht hcl=>ih n2 (by omega) cs y ht hcl
 obtain ⟨a2,b2,r2⟩:=sR (by kernel_rfl) h2
 rw [QS] at l3
 refine ⟨a0,l,a2,⟨l1,yN l l2⟩,?_,r0,r1,r2⟩
 rw [hx]
 simp only [Rows.uptoBulk,sS,rT]
 omega
theorem aGq {H:Type} {enc:TypeId×Value→H} {W:World} {base:Nat} {spare:Nat→Bool} {held:Bool} {n:Nat} {cs:List Value} {x:DataW H×List MemPlace}
  (ih:∀ n2,n2<n→∀ cs y,DataW.trod enc Tryz.prog W base spare held n2 43 cs=some y→cs.length=13→∃ u:Sm,u.fits∧u.wgt≤60*Rows.uptoBulk y.1∧rZ (iH W) cs u.c)
  (h:DataW.trod enc Tryz.prog W base spare held n 75 cs=some x) (hc:cs.length=5):∃ e:Jo,e.fits∧e.wgt≤60*Rows.uptoBulk x.1∧rZ (iH W) cs e.c:=by
 obtain ⟨c0,c1,c2,c3,c4,rfl⟩:∃ c0 c1 c2 c3 c4,cs=[c0,c1,c2,c3,c4]:=by
  match cs,hc with
  | [c0,c1,c2,c3,c4],_=>exact ⟨c0,c1,c2,c3,c4,rfl⟩
 obtain ⟨ys,n',hn',hx,_,hyl,hf⟩:=DataW.trod_struct Tryz.underlying75 h
 have hl:ys.length=3:=hyl
 obtain ⟨y0,y1,y2,rfl⟩:∃ y0 y1 y2,ys=[y0,y1,y2]:=by
  match ys,hl with
  | [y0,y1,y2],_=>exact ⟨y0,y1,y2,rfl⟩
 have h0:DataW.trod enc Tryz.prog W base spare held n' 3 (([c0,c1,c2,c3,c4].drop 0).take (Tryz.prog.cellsOf 3))=some y0:=hf 0 _ rfl
 have h1:DataW.trod enc Tryz.prog W base spare held n' 40 (([c0,c1,c2,c3,c4].drop 1).take (Tryz.prog.cellsOf 40))=some y1:=hf 1 _ rfl
 have h2:DataW.trod enc Tryz.prog W base spare held n' 23 (([c0,c1,c2,c3,c4].drop 4).take (Tryz.prog.cellsOf 23))=some y2:=hf 2 _ rfl
 simp only [aBm (t:=3) (by kernel_rfl),aBL,aBm (t:=23) (by kernel_rfl),List.drop_zero,List.drop_succ_cons,List.take_succ_cons,List.take_zero] at h0 h1 h2
 obtain ⟨a0,rfl⟩:=vQ (by kernel_rfl) h0
 obtain ⟨t,q,nm,fq,wq,r1,r2,r3⟩:=WE (fun n2 hn2=>ih n2 (by omega)) h1
 obtain ⟨l,l1,l2,l3,r4⟩:=iJ Tm.c Tm.fits Tm.wgt (by kernel_rfl) wY Tm.clen (by decide) h2 fun n2 hn2 cs y ht hcl=>vR n2 cs y ht hcl
 rw [FR] at l3
 refine ⟨.mk a0 t q nm l,by rw [Jo.fits]; exact ⟨fq,l1,lO l l2⟩,?_,?_⟩
 ·rw [hx,Jo.wgt]
  simp only [Rows.uptoBulk,sS,rT]
  omega
 ·rw [Jo.c,aE]
  exact ⟨by simp only [aU],r1,r2,r3,r4,trivial⟩
theorem aGr {H:Type} {enc:TypeId×Value→H} {W:World} {base:Nat} {spare:Nat→Bool} {held:Bool}:∀ (n:Nat) (cs:List Value) (x:DataW H×List MemPlace),DataW.trod enc Tryz.prog W base spare held n 43 cs=some x→cs.length=13 →
  ∃ e:Sm,e.fits∧e.wgt≤60*Rows.uptoBulk x.1∧rZ (iH W) cs e.c:=by
 intro n
 induction n using Nat.strongRecOn with
 | _ n ih =>
 intro cs x h hc
 obtain ⟨c0,c1,c2,c3,c4,c5,c6,c7,c8,c9,ca,cb,cc,rfl⟩:∃ c0 c1 c2 c3 c4 c5 c6 c7 c8 c9 ca cb cc,cs=[c0,c1,c2,c3,c4,c5,c6,c7,c8,c9,ca,cb,cc]:=by
  match cs,hc with
  | [c0,c1,c2,c3,c4,c5,c6,c7,c8,c9,ca,cb,cc],_=>exact ⟨c0,c1,c2,c3,c4,c5,c6,c7,c8,c9,ca,cb,cc,rfl⟩
 obtain ⟨ys,n',hn',hx,_,hyl,hf⟩:=DataW.trod_struct Tryz.underlying43 h
 have hl:ys.length=11:=hyl
 obtain ⟨y0,y1,y2,y3,y4,y5,y6,y7,y8,y9,ya,rfl⟩:∃ y0 y1 y2 y3 y4 y5 y6 y7 y8 y9 ya,ys=[y0,y1,y2,y3,y4,y5,y6,y7,y8,y9,ya]:=by
  match ys,hl with
  | [y0,y1,y2,y3,y4,y5,y6,y7,y8,y9,ya],_=>exact ⟨y0,y1,y2,y3,y4,y5,y6,y7,y8,y9,ya,rfl⟩
 have h0:DataW.trod enc Tryz.prog W base spare held n' 3 (([c0,c1,c2,c3,c4,c5,c6,c7,c8,c9,ca,cb,cc].drop 0).take (Tryz.prog.cellsOf 3))=some y0:=hf 0 _ rfl
 have h1:DataW.trod enc Tryz.prog W base spare held n' 4 (([c0,c1,c2,c3,c4,c5,c6,c7,c8,c9,ca,cb,cc].drop 1).take (Tryz.prog.cellsOf 4))=some y1:=hf 1 _ rfl
 have h2:DataW.trod enc Tryz.prog W base spare held n' 4 (([c0,c1,c2,c3,c4,c5,c6,c7,c8,c9,ca,cb,cc].drop 2).take (Tryz.prog.cellsOf 4))=some y2:=hf 2 _ rfl
 have h3:DataW.trod enc Tryz.prog W base spare held n' 4 (([c0,c1,c2,c3,c4,c5,c6,c7,c8,c9,ca,cb,cc].drop 3).take (Tryz.prog.cellsOf 4))=some y3:=hf 3 _ rfl
 have h4:DataW.trod enc Tryz.prog W base spare held n' 37 (([c0,c1,c2,c3,c4,c5,c6,c7,c8,c9,ca,cb,cc].drop 4).take (Tryz.prog.cellsOf 37))=some y4:=hf 4 _ rfl
 have h5:DataW.trod enc Tryz.prog W base spare held n' 40 (([c0,c1,c2,c3,c4,c5,c6,c7,c8,c9,ca,cb,cc].drop 5).take (Tryz.prog.cellsOf 40))=some y5:=hf 5 _ rfl
 have h6:DataW.trod enc Tryz.prog W base spare held n' 41 (([c0,c1,c2,c3,c4,c5,c6,c7,c8,c9,ca,cb,cc].drop 8).take (Tryz.prog.cellsOf 41))=some y6:=hf 6 _ rfl
 have h7:DataW.trod enc Tryz.prog W base spare held n' 23 (([c0,c1,c2,c3,c4,c5,c6,c7,c8,c9,ca,cb,cc].drop 9).take (Tryz.prog.cellsOf 23))=some y7:=hf 7 _ rfl
 have h8:DataW.trod enc Tryz.prog W base spare held n' 23 (([c0,c1,c2,c3,c4,c5,c6,c7,c8,c9,ca,cb,cc].drop 10).take (Tryz.prog.cellsOf 23))=some y8:=hf 8 _ rfl
 have h9:DataW.trod enc Tryz.prog W base spare held n' 23 (([c0,c1,c2,c3,c4,c5,c6,c7,c8,c9,ca,cb,cc].drop 11).take (Tryz.prog.cellsOf 23))=some y9:=hf 9 _ rfl
 have h10:DataW.trod enc Tryz.prog W base spare held n' 38 (([c0,c1,c2,c3,c4,c5,c6,c7,c8,c9,ca,cb,cc].drop 12).take (Tryz.prog.cellsOf 38))=some ya:=hf 10 _ rfl
 simp only [aBm (t:=3) (by kernel_rfl),aBm (t:=4) (by kernel_rfl),aBL,aBm (t:=37) (by kernel_rfl),aBm (t:=41) (by kernel_rfl),aBm (t:=23) (by kernel_rfl),aBm (t:=38) (by kernel_rfl),List.drop_zero,List.drop_succ_cons,List.take_succ_cons,List.take_zero] at h0 h1 h2 h3 h4 h5 h6 h7 h8 h9 h10
 obtain ⟨a0,rfl⟩:=vQ (by kernel_rfl) h0
 obtain ⟨a1,rfl⟩:=DA (by kernel_rfl) h1
 obtain ⟨a2,rfl⟩:=DA (by kernel_rfl) h2
 obtain ⟨a3,rfl⟩:=DA (by kernel_rfl) h3
 obtain ⟨is,i1,i2,i3,r4⟩:=iJ It.c (fun e=>e.t.fits) (fun i=>i.t.wgt+(i.n.length+10)) (by kernel_rfl) aIW It.clen (by decide) h4 fun n2 hn2 cs y ht hcl=>aGp ht hcl
 obtain ⟨t,q,nm,fq,wq,r5,r6,r7⟩:=WE (fun n2 hn2=>ih n2 (by omega)) h5
 obtain ⟨js,j1,j2,j3,r8⟩:=iJ Jo.c Jo.fits Jo.wgt (by kernel_rfl) aIX Jo.clen (by decide) h6 fun n2 hn2 cs y ht hcl=>aGq (fun n3 hn3=>ih n3 (by omega)) ht hcl
 obtain ⟨w,w1,w2,w3,r9⟩:=iJ Tm.c Tm.fits Tm.wgt (by kernel_rfl) wY Tm.clen (by decide) h7 fun n2 hn2 cs y ht hcl=>vR n2 cs y ht hcl
 obtain ⟨g,g1,g2,g3,r10⟩:=iJ Tm.c Tm.fits Tm.wgt (by kernel_rfl) wY Tm.clen (by decide) h8 fun n2 hn2 cs y ht hcl=>vR n2 cs y ht hcl
 obtain ⟨hh,k1,k2,k3,r11⟩:=iJ Tm.c Tm.fits Tm.wgt (by kernel_rfl) wY Tm.clen (by decide) h9 fun n2 hn2 cs y ht hcl=>vR n2 cs y ht hcl
 obtain ⟨ks,s1,s2,s3,r12⟩:=iJ Sm.c Sm.fits Sm.wgt (by kernel_rfl) QT Sm.clen (by decide) h10 fun n2 hn2 cs y ht hcl=>ih n2 (by omega) cs y ht hcl
 rw [aBK] at i3
 rw [aBJ] at j3
 rw [FR] at w3 g3 k3
 rw [QS] at s3
 refine ⟨.mk a0 a1 a2 a3 is t q nm js w g hh ks,?_,?_,?_⟩
 ·rw [Sm.fits]
  refine ⟨⟨i1,lO _ fun e he=>?_⟩,fq,⟨j1,JX js j2⟩,⟨w1,lO w w2⟩,⟨g1,lO g g2⟩,⟨k1,lO hh k2⟩,s1,yN ks s2⟩
  obtain ⟨i,hi,rfl⟩:=List.mem_map.1 he
  exact i2 i hi
 ·rw [hx,Sm.wgt]
  simp only [Rows.uptoBulk,sS,rT]
  omega
 ·rw [Sm.c,aE,aE,aF]
  exact ⟨by simp only [aU],by simp only [aU],by simp only [aU],by simp only [aU],r4,r5,r6,r7,r8,r9,r10,r11,r12,trivial⟩
theorem aGs {H:Type} {enc:TypeId×Value→H} {W:World} {base:Nat} {r:Reach} {b0:Nat} {spare:Nat→Bool} {held:Bool} {v:Value} {d:DataW H} {p:List MemPlace}
  (hv:Value.okWide Tryz.prog W r b0 43 v) (h:DataW.Trod enc Tryz.prog W base spare held 43 v d p):∃ e:Sm,e.fits∧e.wgt≤60*Rows.uptoBulk d∧aG ⟨iH W,fun _=>none⟩ v e.a:=by
 obtain ⟨cs,rfl,hsz⟩:=okWide_struct Tryz.underlying43 hv
 obtain ⟨n,h⟩:=h
 have hl:cs.toList.length=13:=by simpa [QT] using hsz
 obtain ⟨e,he,hw,hu⟩:=aGr n cs.toList _ h hl
 refine ⟨e,he,hw,?_⟩
 simp only [Sm.a,aG]
 exact ⟨cs.toList,rfl,aBz hu⟩
end Go.Proofs.YthpmjipkofbeiaaGreatDoor
