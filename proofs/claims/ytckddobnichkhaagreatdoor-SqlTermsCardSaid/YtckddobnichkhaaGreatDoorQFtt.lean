import Derived.Test.YtckddobnichkhaaGreatDoorQSdt
import Derived.Test.YtckddobnichkhaaGreatDoorQFlq
import Derived.Test.YtckddobnichkhaaGreatDoorFue
import Derived.Test.YtckddobnichkhaaGreatDoorQRqu
set_option linter.all false
/- Read's own variables, and what is left at its end. -/
namespace Go.Proofs.Tryz
open Go.Ab Go.RowKit
set_option maxRecDepth 100000
set_option maxHeartbeats 4000000
def P4 (w:World):Addr:=⟨w.heap.size,0,none⟩
def P5 (w:World):Addr:=⟨w.heap.size+1,0,none⟩
def W1 (w:World):World:=(w.alloc (.cells #[.int .i64 0] 3)).alloc (.cells #[.int .i64 0] 28)
def dcl (w:World):Deferred:={ target:=.fn (.func 19) #[.pointer (some (P4 w)),.pointer (some (P5 w))],args:=#[] }
theorem W1_heap (w:World):(W1 w).heap=(w.heap.push (.cells #[.int .i64 0] 3)).push (.cells #[.int .i64 0] 28):=rfl
theorem W1_size (w:World):(W1 w).heap.size=w.heap.size+2:=by rw [W1_heap,Array.size_push,Array.size_push]
theorem W1_old (w:World) (k:Nat) (h:k<w.heap.size):(W1 w).heap[k]?=w.heap[k]?:=by
 rw [W1_heap,Array.getElem?_push,if_neg (by rw [Array.size_push]; omega),Array.getElem?_push,if_neg (by omega)]
theorem W1_4 (w:World):(W1 w).heap[w.heap.size]?=some (.cells #[.int .i64 0] 3):=by
 rw [W1_heap,Array.getElem?_push,if_neg (by rw [Array.size_push]; omega),Array.getElem?_push,if_pos rfl]
theorem W1_5 (w:World):(W1 w).heap[w.heap.size+1]?=some (.cells #[.int .i64 0] 28):=by
 rw [W1_heap,Array.getElem?_push,if_pos (by rw [Array.size_push])]
noncomputable def C1 (w:World) (h:Gh) (X:Blk):Ctx:={ ctxOf Es (W1 w) h [X] with dfr:=[dcl w] }
structure RdEnd (w w':World) (pos e:Int):Prop where
 c4:w'.cell? (P4 w)=some (.int .i64 0)
 c5:w'.cell? (P5 w)=some (.int .i64 0)
 f4:w'.frozen? (P4 w)=false
 f5:w'.frozen? (P5 w)=false
 c5':(w'.setCell (P4 w) (.int .i64 pos)).cell? (P5 w)=some (.int .i64 0)
 f5':(w'.setCell (P4 w) (.int .i64 pos)).frozen? (P5 w)=false
 e4:((w'.setCell (P4 w) (.int .i64 pos)).setCell (P5 w) (.int .i64 e)).cell? (P4 w)=some (.int .i64 pos)
 e5:((w'.setCell (P4 w) (.int .i64 pos)).setCell (P5 w) (.int .i64 e)).cell? (P5 w)=some (.int .i64 e)
theorem read_end {w w':World} {h h':Gh} {X:Blk} {bl:Nat→Blk} (hX:X.live=true) (m:Mem (ctxOf Es w h [X]) (blkOf [X]) w h) (m':Mem (C1 w h X) bl w' h') (pos e:Int) :
  RdEnd w w' pos e∧Mem (ctxOf Es w h [X]) bl ((w'.setCell (P4 w) (.int .i64 pos)).setCell (P5 w) (.int .i64 e)) h':=by
 have hb:∀ b,b∈baseOf h [X]→b<w.heap.size:=fun b hb=>by
  obtain ⟨j,l,hj,hl,hn,rfl⟩:=mem_baseOf.1 hb
  obtain rfl:j=0:=by simpa using hj
  have e:blkOf [X] (firstName+0)=X:=by simp [blkOf]
  obtain ⟨o,_,ho⟩:=live_heap (m.blks (firstName+0)) (by rw [e]; exact hX) hl hn
  exact heap_lt ho
 have h4:w'.heap[w.heap.size]?=some (.cells #[.int .i64 0] 3):=(m'.frame _ (by show _<(W1 w).heap.size; rw [W1_size]; omega) (fun hm=>absurd (hb _ hm) (by omega))).trans (W1_4 w)
 have h5:w'.heap[w.heap.size+1]?=some (.cells #[.int .i64 0] 28):=(m'.frame _ (by show _<(W1 w).heap.size; rw [W1_size]; omega) (fun hm=>absurd (hb _ hm) (by omega))).trans (W1_5 w)
 have hs4:∀ v:Value,(w'.setCell (P4 w) v).heap[w.heap.size]?=some (.cells #[v] 3):=fun v=>by
  simp [World.setCell,P4,Array.getElem?_modify,h4]
 have hs5:∀ v:Value,(w'.setCell (P4 w) v).heap[w.heap.size+1]?=some (.cells #[.int .i64 0] 28):=fun v=>by
  simp [World.setCell,P4,Array.getElem?_modify,h5]
 have ht4:∀ v u:Value,((w'.setCell (P4 w) v).setCell (P5 w) u).heap[w.heap.size]?=some (.cells #[v] 3):=fun v u=>by
  have:=hs4 v
  generalize w'.setCell (P4 w) v=w3 at *
  simp [World.setCell,P5,Array.getElem?_modify,this]
 have ht5:∀ v u:Value,((w'.setCell (P4 w) v).setCell (P5 w) u).heap[w.heap.size+1]?=some (.cells #[u] 28):=fun v u=>by
  have:=hs5 v
  generalize w'.setCell (P4 w) v=w3 at *
  simp [World.setCell,P5,Array.getElem?_modify,this]
 refine ⟨⟨?_,?_,?_,?_,?_,?_,?_,?_⟩,?_⟩
 ·simp [World.cell?,P4,h4]
 ·simp [World.cell?,P5,h5]
 ·simp [World.frozen?,P4,h4]
 ·simp [World.frozen?,P5,h5]
 ·have:=hs5 (.int .i64 pos)
  generalize w'.setCell (P4 w) (.int .i64 pos)=w3 at *
  simp [World.cell?,P5,this]
 ·have:=hs5 (.int .i64 pos)
  generalize w'.setCell (P4 w) (.int .i64 pos)=w3 at *
  simp [World.frozen?,P5,this]
 ·have:=ht4 (.int .i64 pos) (.int .i64 e)
  generalize (w'.setCell (P4 w) (.int .i64 pos)).setCell (P5 w) (.int .i64 e)=w3 at *
  simp [World.cell?,P4,this]
 ·have:=ht5 (.int .i64 pos) (.int .i64 e)
  generalize (w'.setCell (P4 w) (.int .i64 pos)).setCell (P5 w) (.int .i64 e)=w3 at *
  simp [World.cell?,P5,this]
 ·refine Mem.unshift (w1:=W1 w) (w':=w') (dfr:=[dcl w]) (by simpa using hX) m (by rw [W1_size]; omega) (W1_old w) m' (fun k hk=>?_) (by simp [World.setCell]) ⟨rfl,rfl,rfl⟩ ⟨rfl,rfl,rfl⟩
  rw [W1_size] at hk
  simp only [World.setCell,P4,P5,Array.getElem?_modify]
  rw [if_neg (by omega),if_neg (by omega)]
theorem read_inv {s:List UInt8} {w:World} {h:Gh} {X:Blk} {f:FuncId} {vr:Value} (hX:X.live=true) (m:Mem (ctxOf Es w h [X]) (blkOf [X]) w h) (hr:RepA h vr (.clo f [.ptr 1000000 0 0])) {tm:Array Value} (hsz:tm.size=32)
  (t0:tm.getD 0 undef=.string ⟨s.toArray⟩) (t1:tm.getD 1 undef=vr) (t4:tm.getD 4 undef=.pointer (some (P4 w))) (t5:tm.getD 5 undef=.pointer (some (P5 w))) :
  Inv (C1 w h X) 32 1 { s:=mkS [(0,.d (.str s)),(1,.clo f [.ptr 1000000 0 0]),(4,.d (.val (.pointer (some (P4 w))))),(5,.d (.val (.pointer (some (P5 w)))))],b:=blkOf [X] } { tmps:=tm,defers:=[dcl w] } (W1 w):=by
 refine ⟨fun n l hn hl=>?_,rfl,hsz,h,fun i=>?_,m.shift (by rw [W1_size]; omega) (W1_old w) [dcl w]⟩
 ·rcases Nat.lt_or_ge n (firstName+1) with c | c
  ·exact c
  ·have hm:=m.blks n
   have e:blkOf [X] n=.free:=by
    unfold blkOf
    rw [if_pos hn,List.getElem?_eq_none (by rw [List.length_singleton]; omega)]
    rfl
   rw [e] at hm
   simp only [RepB] at hm
   have hl':h.L n=some l:=hl
   rw [hm] at hl'
   cases hl'
 ·simp only [mkS,upds,upd]
  split
  ·rename_i e; subst e; simp only [RepA,RepD]; exact ⟨t5,rfl⟩
  ·split
   ·rename_i e; subst e; simp only [RepA,RepD]; exact ⟨t4,rfl⟩
   ·split
    ·rename_i e; subst e; rw [t1]; exact hr
    ·split
     ·rename_i e; subst e; simp only [RepA,RepD]; exact t0
     ·simp only [RepA]
theorem read_in {w:World} {h:Gh} {X:Blk} (hX:X.live=true) (m:Mem (ctxOf Es w h [X]) (blkOf [X]) w h):∀ j,j<1→∃ l,(C1 w h X).h0.L (firstName+j)=some l:=fun j hj=>by
 obtain rfl:j=0:=by omega
 have e:blkOf [X] (firstName+0)=X:=by simp [blkOf]
 exact live_loc (m.blks (firstName+0)) (by rw [e]; exact hX)
end Go.Proofs.Tryz
/- Terms that are read fit. No program in sight. -/
namespace Go.Proofs.Tryz
open Go.Ab
set_option maxRecDepth 100000
def FitT (r:Res Tm):Prop:=∀ t m,r=.ok (t,m)→t.fits
def FitL (r:Res (List Tm)):Prop:=∀ ks m,r=.ok (ks,m)→tmsFits ks∧ks.length≤2000000
theorem FitT.ok {t:Tm} {m:List Tk} (h:t.fits):FitT (.ok (t,m)):=fun _ _ e=>by cases e; exact h
theorem FitT.err (p:Nat):FitT (.error p):=fun _ _ e=>by cases e
theorem FitL.ok {t:List Tm} {m:List Tk} (h:tmsFits t∧t.length≤2000000):FitL (.ok (t,m)):=fun _ _ e=>by cases e; exact h
theorem fit2 {α:Type} {r:Res α} {l:List Tk} (hs:SfxOk r l) {f:α→List Tk→Res Tm} (h:∀ t m,r=.ok (t,m)→m.length≤l.length→FitT (f t m)):FitT (bind2 r f):=by
 cases hr:r with
 | error p=>exact .err p
 | ok x=>obtain ⟨t,m⟩:=x; exact h t m hr (sfx_len hs hr)
theorem fitL2 {α:Type} {r:Res α} {l:List Tk} (hs:SfxOk r l) {f:α→List Tk→Res (List Tm)} (h:∀ t m,r=.ok (t,m)→m.length≤l.length→FitL (f t m)):FitL (bind2 r f):=by
 cases hr:r with
 | error p=>exact fun _ _ e=>by cases e
 | ok x=>obtain ⟨t,m⟩:=x; exact h t m hr (sfx_len hs hr)
theorem fit1 {ws:List (List UInt8)} {l:List Tk} {f:List Tk→Res Tm} (h:∀ m,m.length≤l.length→FitT (f m)):FitT (bind1 (expS ws l) f):=by
 cases hr:expS ws l with
 | error p=>exact .err p
 | ok m=>exact h m (exp_len hr)
theorem fitL1 {ws:List (List UInt8)} {l:List Tk} {f:List Tk→Res (List Tm)} (h:∀ m,m.length≤l.length→FitL (f m)):FitL (bind1 (expS ws l) f):=by
 cases hr:expS ws l with
 | error p=>exact fun _ _ e=>by cases e
 | ok m=>exact h m (exp_len hr)
theorem tmsFits_app:∀ (a b:List Tm),tmsFits a→tmsFits b→tmsFits (a++b)
 | [],b,_,hb=>hb
 | x::a,b,ha,hb=>by
   rw [tmsFits] at ha
   rw [List.cons_append,tmsFits]
   exact ⟨ha.1,tmsFits_app a b ha.2 hb⟩
theorem fits_mk {o y n:Int} {t q:List UInt8} {ks:List Tm} (h:tmsFits ks∧ks.length≤2000000):(Tm.mk o y n t q ks).fits:=by
 rw [Tm.fits]
 exact ⟨by omega,h.1⟩
theorem fits_mkT {o:Int} {ks:List Tm} (h:tmsFits ks∧ks.length≤2000000):(mkT o ks).fits:=fits_mk h
theorem fits0:tmsFits []∧([]:List Tm).length≤2000000:=⟨trivial,by decide⟩
theorem fitsS {a:Tm} (ha:a.fits):tmsFits [a]∧[a].length≤2000000:=⟨⟨ha,trivial⟩,by simp⟩
theorem fitsP {a b:Tm} (ha:a.fits) (hb:b.fits):tmsFits [a,b]∧[a,b].length≤2000000:=⟨⟨ha,hb,trivial⟩,by simp⟩
section
variable {p:List Tk→Res Tm} (hs:∀ l,SfxOk (p l) l) (hp:∀ l,l.length≤1000000→FitT (p l))
include hs hp
theorem chain_fit (sg:List (List UInt8)) (ops:List Int):∀ (k:Nat) (out:Tm) (l:List Tk),l.length≤1000000→out.fits→FitT (chainS p sg ops k out l)
 | 0,out,l,_,ho=>.ok ho
 | k+1,out,l,hl,ho=>by
   rw [chainS]
   split
   ·exact .ok ho
   ·split
    ·exact .err _
    ·rename_i t l' h
     have h1:=sfx_len (hs l.tail) h
     have h2:l.tail.length≤l.length:=(tail_sfx l).length_le
     exact chain_fit sg ops k _ l' (by omega) (fits_mkT (fitsP ho (hp _ (by omega) t l' h)))
theorem more_fit:∀ (k:Nat) (ks:List Tm) (l:List Tk),l.length≤1000000→tmsFits ks→ks.length+k≤2000000→FitL (moreS p k ks l)
 | 0,ks,l,_,hk,hn=>.ok ⟨hk,by omega⟩
 | k+1,ks,l,hl,hk,hn=>by
   rw [moreS]
   have h2:l.tail.length≤l.length:=(tail_sfx l).length_le
   split
   ·exact fitL2 (hs _) fun t m ht hm=>more_fit k _ m (by omega) (tmsFits_app _ _ hk ⟨hp _ (by omega) t m ht,trivial⟩) (by simp; omega)
   ·exact .ok ⟨hk,by omega⟩
theorem rest_fit:∀ (k:Nat) (ks:List Tm) (l:List Tk),l.length≤1000000→tmsFits ks→ks.length+k≤2000000→FitL (restS p k ks l)
 | 0,ks,l,_,hk,hn=>.ok ⟨hk,by omega⟩
 | k+1,ks,l,hl,hk,hn=>by
   rw [restS]
   exact fitL1 fun l1 h1=>fitL2 (hs l1) fun t m ht hm=>rest_fit k _ m (by omega) (tmsFits_app _ _ hk ⟨hp _ (by omega) t m ht,trivial⟩) (by simp; omega)
theorem list_fit (k:Nat) (hk:k≤10) (l:List Tk) (hl:l.length≤1000000):FitL (listS p k l) :=
 fitL1 fun l1 h1=>fitL2 (hs l1) fun t l2 ht h2=>fitL2 (rest_sfx hs k [t] l2) fun ks l3 hk3 h3=>fitL1 fun l4 h4=>.ok (rest_fit hs hp k [t] l2 (by omega) ⟨hp _ (by omega) t l2 ht,trivial⟩ (by simp; omega) ks l3 hk3)
theorem case_fit:∀ (ws:List (List UInt8)) (ks:List Tm) (l:List Tk),l.length≤1000000→tmsFits ks→ks.length+ws.length≤2000000→FitL (caseS p ws ks l)
 | [],ks,l,_,hk,hn=>.ok ⟨hk,by simpa using hn⟩
 | w::ws,ks,l,hl,hk,hn=>by
   rw [caseS]
   exact fitL1 fun l1 h1=>fitL2 (hs l1) fun t m ht hm=>case_fit ws _ m (by omega) (tmsFits_app _ _ hk ⟨hp _ (by omega) t m ht,trivial⟩) (by simp at hn ⊢; omega)
theorem agg_fit (i:Nat) (l:List Tk) (hl:l.length≤1000000):FitT (aggS p i l):=by
 unfold aggS
 refine fit1 fun l1 h1=>?_
 have h2:l1.tail.length≤l1.length:=(tail_sfx l1).length_le
 split
 ·exact fit1 fun l2 _=>.ok (fits_mk fits0)
 ·split
  ·exact fit2 (hs _) fun t l2 ht _=>fit1 fun l3 _=>.ok (fits_mk (fitsS (hp _ (by omega) t l2 ht)))
  ·exact fit2 (hs _) fun t l2 ht _=>fit1 fun l3 _=>.ok (fits_mk (fitsS (hp _ (by omega) t l2 ht)))
theorem level_fit (sg:List (List UInt8)) (ops:List Int) (l:List Tk) (hl:l.length≤1000000):FitT (bind2 (p l) fun t l'=>chainS p sg ops l'.length t l') :=
 fit2 (hs l) fun t m ht hm=>chain_fit hs hp sg ops _ t m (by omega) (hp l hl t m ht)
theorem mapT_fit {g:Tm→Tm} (hg:∀ t:Tm,t.fits→(g t).fits) (l:List Tk) (hl:l.length≤1000000):FitT (mapT g (p l)) :=
 fit2 (hs l) fun t m ht _=>.ok (hg t (hp l hl t m ht))
end
theorem par_fit:∀ (n lvl:Nat) (l:List Tk),l.length≤1000000→FitT (parP n lvl l)
 | 0,lvl,l,_=>.err _
 | n+1,0,l,hl=>by rw [parP]; exact level_fit (par_sfx n 1) (par_fit n 1) _ _ l hl
 | n+1,1,l,hl=>by rw [parP]; exact level_fit (par_sfx n 2) (par_fit n 2) _ _ l hl
 | n+1,2,l,hl=>by
   rw [parP]
   have h2:l.tail.length≤l.length:=(tail_sfx l).length_le
   split
   ·exact mapT_fit (par_sfx n 2) (par_fit n 2) (fun t ht=>fits_mkT (fitsS ht)) _ (by omega)
   ·exact par_fit n 3 l hl
 | n+1,3,l,hl=>by
   rw [parP]
   refine fit2 (par_sfx n 4 l) fun a l' ha hl'=>?_
   have fa:=par_fit n 4 l hl a l' ha
   have h2:l'.tail.length≤l'.length:=(tail_sfx l').length_le
   split
   ·exact mapT_fit (par_sfx n 4) (par_fit n 4) (fun t ht=>fits_mkT (fitsP fa ht)) _ (by omega)
   ·split
    ·split
     ·exact .ok (fits_mkT (fitsS fa))
     ·split
      ·exact .ok (fits_mkT (fitsS fa))
      ·exact fit1 fun l2 _=>.ok (fits_mkT (fitsS (fits_mkT (fitsS fa))))
    ·split
     ·exact fit1 fun l2 h2'=>fit2 (par_sfx n 0 l2) fun b l3 hb h3=>fit2 (more_sfx (par_sfx n 0) _ _ l3) fun ks l4 hk h4=>fit1 fun l5 _ =>
       .ok (fits_mkT (more_fit (par_sfx n 0) (par_fit n 0) _ [a,b] l3 (by omega) (fitsP fa (par_fit n 0 l2 (by omega) b l3 hb)).1 (by simp; omega) ks l4 hk))
     ·exact .ok fa
 | n+1,4,l,hl=>by rw [parP]; exact level_fit (par_sfx n 5) (par_fit n 5) _ _ l hl
 | n+1,5,l,hl=>by rw [parP]; exact level_fit (par_sfx n 6) (par_fit n 6) _ _ l hl
 | n+1,6,l,hl=>by
   rw [parP]
   have h2:l.tail.length≤l.length:=(tail_sfx l).length_le
   split
   ·split
    ·exact .ok (fits_mk fits0)
    ·exact mapT_fit (par_sfx n 6) (par_fit n 6) (fun t ht=>fits_mkT (fitsS ht)) _ (by omega)
   ·exact par_fit n 7 l hl
 | n+1,m+7,[],_=>by rw [parP]; exact .err _
 | n+1,m+7,t::r,hl=>by
   have hr:r.length≤1000000:=by simp only [List.length_cons] at hl; omega
   have h2:r.tail.length≤r.length:=(tail_sfx r).length_le
   rw [parP]
   split
   ·exact .ok (fits_mk fits0)
   split
   ·exact .ok (fits_mk fits0)
   split
   ·exact .ok (fits_mk fits0)
   split
   ·exact .ok (fits_mkT fits0)
   split
   ·split
    ·exact .ok (fits_mk fits0)
    ·exact .err _
   split
   ·exact fit2 (par_sfx n 0 r) fun x l2 hx _=>fit1 fun l3 _=>.ok (par_fit n 0 r hr x l2 hx)
   split
   ·exact fit2 (list_sfx (par_sfx n 0) 0 r) fun ks l2 hk _=>.ok (fits_mkT (list_fit (par_sfx n 0) (par_fit n 0) 0 (by decide) r hr ks l2 hk))
   split
   ·exact fit2 (list_sfx (par_sfx n 0) 1 r) fun ks l2 hk _=>.ok (fits_mkT (list_fit (par_sfx n 0) (par_fit n 0) 1 (by decide) r hr ks l2 hk))
   split
   ·exact fit2 (case_sfx (par_sfx n 0) _ _ r) fun ks l2 hk _=>fit1 fun l3 _=>.ok (fits_mkT (case_fit (par_sfx n 0) (par_fit n 0) _ [] r hr trivial (by simp) ks l2 hk))
   split
   ·exact agg_fit (par_sfx n 0) (par_fit n 0) _ r hr
   ·refine fit2 (name_sfx (t::r)) fun a l1 _ _=>?_
    split
    ·exact fit2 (name_sfx _) fun b l2 _ _=>.ok (fits_mk fits0)
    ·exact .ok (fits_mk fits0)
end Go.Proofs.Tryz
