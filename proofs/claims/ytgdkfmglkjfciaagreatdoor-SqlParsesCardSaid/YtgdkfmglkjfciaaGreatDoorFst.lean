import Derived.Test.YtgdkfmglkjfciaaGreatDoorPPta
import Derived.Test.YtgdkfmglkjfciaaGreatDoorPExc0
set_option linter.all false
namespace Go.Proofs.Tryz
open Go.Ab
set_option maxRecDepth 100000
def Fit {α:Type} (P:α→Prop) (r:Res α):Prop:=∀ t m,r=.ok (t,m)→P t
theorem Fit.ok {α:Type} {P:α→Prop} {t:α} {m:List Tk} (h:P t):Fit P (.ok (t,m)):=fun _ _ e=>by cases e; exact h
theorem fitB {α β:Type} {P:α→Prop} {Q:β→Prop} {r:Res α} {l:List Tk} (hs:SfxOk r l) (hr:Fit P r) {f:α→List Tk→Res β} (h:∀ t m,P t→m.length≤l.length→Fit Q (f t m)):Fit Q (bind2 r f):=by
 cases hr':r with
 | error p=>exact fun _ _ e=>by cases e
 | ok x=>obtain ⟨t,m⟩:=x; exact h t m (hr t m hr') (sfx_len hs hr')
theorem fitW {β:Type} {Q:β→Prop} {ws:List (List UInt8)} {l:List Tk} {f:List Tk→Res β} (h:∀ m,m.length≤l.length→Fit Q (f m)):Fit Q (bind1 (expS ws l) f):=by
 cases hr:expS ws l with
 | error p=>exact fun _ _ e=>by cases e
 | ok m=>exact h m (exp_len hr)
def GoodS (x:Sm):Prop:=x.fits∧x.small
def GoodSo (s:So):Prop:=s.2.1.length≤1∧smsFits s.2.1∧smsSmall s.2.1
def GoodJ (j:Jo):Prop:=j.fits∧j.small
def GoodJs (l:List Jo):Prop:=l.length≤10000∧josFits l∧josSmall l
def GoodTs (l:List Tm):Prop:=l.length≤10000∧tmsFits l
def GoodIs (l:List It):Prop:=l.length≤10000∧tmsFits (l.map It.t)
theorem josFits_app:∀ (a b:List Jo),josFits a→josFits b→josFits (a++b)
 | [],b,_,hb=>hb
 | x::a,b,ha,hb=>by
   rw [josFits] at ha
   rw [List.cons_append,josFits]
   exact ⟨ha.1,josFits_app a b ha.2 hb⟩
theorem josSmall_app:∀ (a b:List Jo),josSmall a→josSmall b→josSmall (a++b)
 | [],b,_,hb=>hb
 | x::a,b,ha,hb=>by
   rw [josSmall] at ha
   rw [List.cons_append,josSmall]
   exact ⟨ha.1,josSmall_app a b ha.2 hb⟩
theorem gts0:GoodTs []:=⟨by decide,trivial⟩
theorem gts1 {t:Tm} (h:t.fits):GoodTs [t]:=⟨by simp,h,trivial⟩
theorem name_true (l:List Tk):Fit (fun _=>True) (nameS l):=fun _ _ _=>trivial
theorem as_true (l:List Tk):Fit (fun _=>True) (asS l):=fun _ _ _=>trivial
theorem tl_len (l:List Tk):l.tail.length≤l.length:=by simp
section
variable {tm:List Tk→Res Tm} {st:List Tk→Res Sm} (hT:∀ l,SfxOk (tm l) l) (hS:∀ l,SfxOk (st l) l)
variable (hf:∀ l,l.length≤9000→Fit Tm.fits (tm l)) (hg:∀ l,l.length≤9000→Fit GoodS (st l))
include hT hf in
theorem item_fit {l:List Tk} (hl:l.length≤9000):Fit (fun i:It=>i.t.fits) (itemS tm l) :=
 fitB (hT l) (hf l hl) fun t l1 ht _=>fitB (as_sfx l1) (as_true l1) fun n l2 _ _=>.ok ht
include hT hf in
theorem items_fit:∀ (k:Nat) (is:List It) (l:List Tk),l.length≤9000→tmsFits (is.map It.t)→is.length+k≤10000→Fit GoodIs (itemsS tm k is l)
 | 0,is,l,_,h,hk=>.ok ⟨by omega,h⟩
 | k+1,is,l,hl,h,hk=>by
   rw [itemsS]
   split
   ·have h1:=tl_len l
    refine fitB (item_sfx hT _) (item_fit hT hf (by omega)) fun i l' hi hl'=>items_fit k _ _ (by omega) ?_ (by simp; omega)
    rw [List.map_append]
    exact tmsFits_app _ _ h ⟨hi,trivial⟩
   ·exact .ok ⟨by omega,h⟩
include hS hg in
theorem source_fit {l:List Tk} (hl:l.length≤9000):Fit GoodSo (sourceS st l):=by
 unfold sourceS
 have h1:=tl_len l
 split
 ·exact fitB (hS _) (hg _ (by omega)) fun x l1 hx _=>fitW fun l2 _=>fitB (name_sfx l2) (name_true l2) fun n l3 _ _=>.ok ⟨by simp,⟨hx.1,trivial⟩,hx.2,trivial⟩
 ·exact fitB (name_sfx l) (name_true l) fun t l1 _ _=>fitB (as_sfx l1) (as_true l1) fun n l2 _ _=>.ok ⟨by simp,trivial,trivial⟩
include hT hS hf hg in
theorem join_fit (k:Nat) {l:List Tk} (hl:l.length≤9000):Fit GoodJ (joinS tm st k l):=by
 unfold joinS
 refine fitW fun l1 h1=>fitB (source_sfx hS l1) (source_fit hS hg (by omega)) fun s l2 hs h2=>?_
 have hq:s.2.1.length≤9223372036854775807:=by have:=hs.1; omega
 split
 ·refine .ok ⟨?_,?_⟩
  ·rw [Jo.fits]; exact ⟨⟨hq,hs.2.1⟩,by decide,trivial⟩
  ·rw [Jo.small]; exact ⟨by decide,hs.2.2⟩
 ·refine fitW fun l3 h3=>fitB (hT l3) (hf l3 (by omega)) fun t l4 ht h4=>.ok ⟨?_,?_⟩
  ·rw [Jo.fits]; exact ⟨⟨hq,hs.2.1⟩,by simp,ht,trivial⟩
  ·rw [Jo.small]; exact ⟨by simp,hs.2.2⟩
include hT hS hf hg in
theorem joins_fit:∀ (k:Nat) (js:List Jo) (l:List Tk),l.length≤9000→josFits js∧josSmall js→js.length+k≤10000→Fit GoodJs (joinsS tm st k js l)
 | 0,js,l,_,h,hk=>.ok ⟨by omega,h⟩
 | k+1,js,l,hl,h,hk=>by
   have h1:=tl_len l
   rw [joinsS]
   split
   ·exact fitB (join_sfx hT hS _ _) (join_fit hT hS hf hg _ (by omega)) fun j l' hj hl'=>joins_fit k _ _ (by omega) ⟨josFits_app _ _ h.1 ⟨hj.1,trivial⟩,josSmall_app _ _ h.2 ⟨hj.2,trivial⟩⟩ (by simp; omega)
   ·split
    ·exact fitB (join_sfx hT hS _ _) (join_fit hT hS hf hg _ (by omega)) fun j l' hj hl'=>joins_fit k _ _ (by omega) ⟨josFits_app _ _ h.1 ⟨hj.1,trivial⟩,josSmall_app _ _ h.2 ⟨hj.2,trivial⟩⟩ (by simp; omega)
    ·exact .ok ⟨by omega,h⟩
include hT hf in
theorem one_fit (w:List UInt8) {l:List Tk} (hl:l.length≤9000):Fit GoodTs (oneS tm w l):=by
 have h1:=tl_len l
 unfold oneS
 split
 ·exact fitB (hT _) (hf _ (by omega)) fun t l' ht _=>.ok (gts1 ht)
 ·exact .ok gts0
include hT hf in
theorem mores_fit:∀ (k:Nat) (ks:List Tm) (l:List Tk),l.length≤9000→tmsFits ks→ks.length+k≤10000→Fit GoodTs (moreS tm k ks l)
 | 0,ks,l,_,h,hk=>.ok ⟨by omega,h⟩
 | k+1,ks,l,hl,h,hk=>by
   have h1:=tl_len l
   rw [moreS]
   split
   ·exact fitB (hT _) (hf _ (by omega)) fun t l' ht hl'=>mores_fit k _ _ (by omega) (tmsFits_app _ _ h ⟨ht,trivial⟩) (by simp; omega)
   ·exact .ok ⟨by omega,h⟩
include hT hf in
theorem group_fit {l:List Tk} (hl:l.length≤9000):Fit GoodTs (groupS tm l):=by
 have h1:=tl_len l
 unfold groupS
 split
 ·exact fitW fun l1 hl1=>fitB (hT _) (hf _ (by omega)) fun t l2 ht hl2=>mores_fit hT hf _ _ _ (by omega) ⟨ht,trivial⟩ (by simp; omega)
 ·exact .ok gts0
include hT hf in
theorem star_fit {l:List Tk} (hl:l.length≤9000):Fit GoodIs (starS tm l):=by
 unfold starS
 split
 ·exact .ok ⟨by decide,trivial⟩
 ·exact fitB (item_sfx hT _) (item_fit hT hf hl) fun i l' hi hl'=>items_fit hT hf _ _ _ (by omega) ⟨hi,trivial⟩ (by simp; omega)
include hT hS hf hg in
theorem sel_fit {l:List Tk} (hl:l.length≤9000):Fit GoodS (selS tm st l):=by
 unfold selS
 refine fitW fun l1 h1=>?_
 have hd:=opt_len wDistinct l1
 refine fitB (star_sfx hT _) (star_fit hT hf (by omega)) fun is l2 hi h2=>fitW fun l3 h3=>fitB (source_sfx hS l3) (source_fit hS hg (by omega)) fun s l4 hs h4=>?_
 refine fitB (joins_sfx hT hS _ _ l4) (joins_fit hT hS hf hg l4.length [] l4 (by omega) ⟨trivial,trivial⟩ (by simp; omega)) fun js l5 hj h5=>?_
 refine fitB (one_sfx hT _ l5) (one_fit hT hf _ (by omega)) fun w l6 hw h6=>fitB (group_sfx hT l6) (group_fit hT hf (by omega)) fun g l7 hgr h7=>?_
 refine fitB (one_sfx hT _ l7) (one_fit hT hf _ (by omega)) fun h l8 hh h8=>.ok ⟨?_,?_⟩
 ·rw [Sm.fits]
  have e1:=hi.1
  have e2:=hs.1
  have e3:=hj.1
  have e4:=hw.1
  have e5:=hgr.1
  have e6:=hh.1
  exact ⟨⟨by omega,hi.2⟩,⟨by omega,hs.2.1⟩,⟨by omega,hj.2.1⟩,⟨by omega,hw.2⟩,⟨by omega,hgr.2⟩,⟨by omega,hh.2⟩,by decide,trivial⟩
 ·rw [Sm.small]
  exact ⟨hi.1,hj.1,hw.1,hgr.1,hh.1,hs.2.2,hj.2.2,trivial⟩
include hT hS hf hg in
theorem core_fit {l:List Tk} (hl:l.length≤9000):Fit GoodS (coreS tm st l):=by
 have h1:=tl_len l
 unfold coreS
 split
 ·exact fitB (hS _) (hg _ (by omega)) fun x l1 hx _=>fitW fun l2 _=>.ok hx
 ·exact sel_fit hT hS hf hg hl
theorem set_good (i:Nat) (a:Bool) {x y:Sm} (hx:GoodS x) (hy:GoodS y):GoodS (setS i a x y):=by
 unfold setS
 refine ⟨?_,?_⟩
 ·rw [Sm.fits]
  exact ⟨⟨by decide,trivial⟩,⟨by decide,trivial⟩,⟨by decide,trivial⟩,⟨by decide,trivial⟩,⟨by decide,trivial⟩,⟨by decide,trivial⟩,by simp,hx.1,hy.1,trivial⟩
 ·rw [Sm.small]
  exact ⟨by decide,by decide,by decide,by decide,by decide,trivial,trivial,hx.2,hy.2,trivial⟩
include hT hS hf hg in
theorem stmt_fit:∀ (k:Nat) (x:Sm) (l:List Tk),l.length≤9000→GoodS x→Fit GoodS (stmtS tm st k x l)
 | 0,x,l,_,h=>.ok h
 | k+1,x,l,hl,h=>by
   have h1:=tl_len l
   have h2:=opt_len wAll l.tail
   rw [stmtS]
   split
   ·exact .ok h
   ·exact fitB (core_sfx hT hS _) (core_fit hT hS hf hg (by omega)) fun y l' hy hl'=>stmt_fit k _ _ (by omega) (set_good _ _ h hy)
end
theorem stmtP_fit (N:Nat):∀ (n:Nat) (l:List Tk),l.length≤9000→Fit GoodS (stmtP N n l)
 | 0,l,_=>fun _ _ e=>by cases e
 | n+1,l,hl=>by
   have hf:∀ l:List Tk,l.length≤9000→Fit Tm.fits (parP N 0 l):=fun l hl=>par_fit N 0 l (by omega)
   rw [stmtP]
   exact fitB (core_sfx (par_sfx N 0) (stmtP_sfx N n) l) (core_fit (par_sfx N 0) (stmtP_sfx N n) hf (stmtP_fit N n) hl) fun x l' hx hl'=>stmt_fit (par_sfx N 0) (stmtP_sfx N n) hf (stmtP_fit N n) _ _ _ (by omega) hx
end Go.Proofs.Tryz
