/- The program and the reference read the same statements. No program in sight. -/
import Derived.Test.YtckddobnichkhaaGreatDoorQVpa
set_option linter.all false
namespace Go.Proofs.Tryz
open Go.Ab
set_option maxRecDepth 100000
set_option maxHeartbeats 4000000
def EqG {α:Type} (r:Res α) (q:α×RS):Prop:=match r with
 | .ok (t,l)=>q=(t,(l,-1))
 | .error p=>q.2.2=(p:Int)
theorem eqG2 {α β:Type} {r:Res α} {q:α×RS} (h:EqG r q) {f:α→List Tk→Res β} {g:α×RS→β×RS} (hf:∀ t l,r=.ok (t,l)→EqG (f t l) (g (t,(l,-1)))) (hb:∀ q:α×RS,0≤q.2.2→(g q).2=q.2):EqG (bind2 r f) (g q):=by
 cases r with
 | error p =>
   have h':q.2.2=(p:Int):=h
   show (g q).2.2=(p:Int)
   rw [hb q (by omega),h']
 | ok x =>
   obtain ⟨t,l⟩:=x
   have h':q=(t,(l,-1)):=h
   rw [h']
   exact hf t l rfl
theorem eqGW {β:Type} {w:List UInt8} {l:List Tk} {f:List Tk→Res β} {g:RS→β×RS} (hf:isW w l=true→EqG (f l.tail) (g (l.tail,-1))) (hb:∀ s:RS,0≤s.2→(g s).2=s):EqG (bind1 (expS [w] l) f) (g (rWant w (l,-1))):=by
 rw [rWant_good]
 simp only [expS]
 split
 ·rename_i h
  exact hf h
 ·show (g (l,(posT l:Int))).2.2=(posT l:Int)
  rw [hb _ (by simp only; omega)]
theorem eqGE {β:Type} {w:List UInt8} {l:List Tk} (t:β):EqG (bind1 (expS [w] l) fun l'=>.ok (t,l')) (t,rWant w (l,-1)) :=
 eqGW (g:=fun s=>(t,s)) (fun _=>rfl) fun s _=>rfl
theorem eqG_of {r:Res Tm} {q:Tm×RS} (h:Eqv r q):EqG r q:=by
 cases r with
 | error p=>exact h
 | ok x=>exact h
theorem eqG_ofL {r:Res (List Tm)} {q:List Tm×RS} (h:EqvL r q):EqG r q:=by
 cases r with
 | error p=>exact h
 | ok x=>exact h
theorem name_eqG {l:List Tk} (hl:okL l):EqG (nameS l) (rName (l,-1)):=by
 cases l with
 | nil =>
   have e:rName (([],-1):RS)=([],([],0)):=by simp [rName,rNamed,rFail,hdT,posT]
   rw [e]
   rfl
 | cons t r =>
   have ht:=hl t List.mem_cons_self
   unfold rName
   rw [named_good ht]
   unfold nameS
   simp only
   by_cases hk:t.kd=1∧nameOk rsv t.rw=true
   ·rw [if_pos hk]
    have e:(t.kd==1&&nameOk rsv t.rw)=true:=by simp [hk]
    rw [e,if_pos rfl,rNext_good]
    simp only [hdT,List.tail_cons]
    rw [ht.tx (.inl hk.1)]
    rfl
   ·rw [if_neg hk]
    have e:¬ (t.kd==1&&nameOk rsv t.rw)=true:=by simpa using hk
    rw [if_neg e,rFail_good]
    rfl
theorem optG (w:List UInt8) (l:List Tk):rOpt w (l,-1)=((optW w l).1,((optW w l).2,-1)):=by
 unfold rOpt optW
 rw [rIs_good,rNext_good]
 split <;> rfl
theorem opt_bad {s:RS} (h:0≤s.2) (w:List UInt8):rOpt w s=(false,s):=by unfold rOpt; rw [rIs_bad h]; simp
theorem opt_sfx (w:List UInt8) (l:List Tk):(optW w l).2 <:+ l:=by
 unfold optW
 split
 ·exact tail_sfx l
 ·exact List.suffix_refl _
section
variable {tm:List Tk→Res Tm} {st:List Tk→Res Sm} {rt:RS→Tm×RS} {rs:RS→Sm×RS}
variable (hT:∀ l,okL l→EqG (tm l) (rt (l,-1))) (hTb:∀ s:RS,0≤s.2→(rt s).2=s) (hTs:∀ l,SfxOk (tm l) l)
variable (hS:∀ l,okL l→EqG (st l) (rs (l,-1))) (hSb:∀ s:RS,0≤s.2→(rs s).2=s) (hSs:∀ l,SfxOk (st l) l)
theorem as_bad {s:RS} (h:0≤s.2):(asR s).2=s:=by unfold asR; rw [rIs_bad h]; rfl
theorem as_eqG {l:List Tk} (hl:okL l):EqG (asS l) (asR (l,-1)):=by
 unfold asS asR
 rw [rIs_good,rNext_good]
 split
 ·exact name_eqG hl.tl
 ·rfl
theorem as_sfx (l:List Tk):SfxOk (asS l) l:=by
 unfold asS
 split
 ·exact (name_sfx _).up (tail_sfx l)
 ·exact .ok (List.suffix_refl _)
include hTb in
theorem item_bad {s:RS} (h:0≤s.2):(itemR rt s).2=s:=by
 unfold itemR
 simp only
 rw [hTb s h,as_bad h]
include hT hTs in
theorem item_eqG {l:List Tk} (hl:okL l):EqG (itemS tm l) (itemR rt (l,-1)):=by
 unfold itemS itemR
 refine eqG2 (g:=fun x=>(It.mk x.1 (asR x.2).1,(asR x.2).2)) (hT l hl) (fun t l1 h1=>?_) fun x hx=>as_bad hx
 exact eqG2 (g:=fun x=>(It.mk t x.1,x.2)) (as_eqG (hl.sfx (hTs _ _ _ h1))) (fun n l2 _=>rfl) fun x _=>rfl
include hTs in
theorem item_sfx (l:List Tk):SfxOk (itemS tm l) l:=sfx2 (hTs l) fun t l1 _=>sfx2 (as_sfx l1) fun n l2 _=>.ok (List.suffix_refl _)
theorem items_bad {s:RS} (h:0≤s.2):∀ (k:Nat) (is:List It),itemsR rt k is s=(is,s)
 | 0,is=>rfl
 | k+1,is=>by rw [itemsR,rIs_bad h]; simp
include hT hTs in
theorem items_eqG:∀ (k:Nat) (is:List It) (l:List Tk),okL l→EqG (itemsS tm k is l) (itemsR rt k is (l,-1))
 | 0,is,l,hl=>rfl
 | k+1,is,l,hl=>by
   rw [itemsS,itemsR,rIs_good,rNext_good]
   split
   ·exact eqG2 (g:=fun x=>itemsR rt k (is++[x.1]) x.2) (item_eqG hT hTs hl.tl) (fun i l' h1=>items_eqG k _ l' (hl.tl.sfx (item_sfx hTs _ _ _ h1))) fun x hx=>by rw [items_bad hx]
   ·rfl
include hTs in
theorem items_sfx:∀ (k:Nat) (is:List It) (l:List Tk),SfxOk (itemsS tm k is l) l
 | 0,is,l=>.ok (List.suffix_refl _)
 | k+1,is,l=>by
   rw [itemsS]
   split
   ·exact (sfx2 (item_sfx hTs _) fun i l' _=>items_sfx k _ l').up (tail_sfx l)
   ·exact .ok (List.suffix_refl _)
include hSb in
theorem source_bad {s:RS} (h:0≤s.2):(sourceR rs s).2=s:=by
 unfold sourceR
 rw [rIs_bad h]
 simp only [Bool.false_eq_true,if_false]
 rw [rName_bad h]
 exact as_bad h
include hS hSs in
theorem source_eqG {l:List Tk} (hl:okL l):EqG (sourceS st l) (sourceR rs (l,-1)):=by
 unfold sourceS sourceR
 rw [rIs_good,rNext_good]
 split
 ·refine eqG2 (g:=fun x=>(([],[x.1],(rName (rWant wAs (rWant wShut x.2))).1),(rName (rWant wAs (rWant wShut x.2))).2)) (hS _ hl.tl) (fun x l1 h1=>?_) fun x hx=>by simp only; rw [rWant_bad hx,rWant_bad hx,rName_bad hx]
  have hl1:=hl.tl.sfx (hSs _ _ _ h1)
  have e:∀ f:List Tk→Res So,bind1 (expS [wShut,wAs] l1) f=bind1 (expS [wShut] l1) fun l2=>bind1 (expS [wAs] l2) f:=fun f=>by
   simp only [expS]
   split <;> rfl
  rw [e]
  refine eqGW (g:=fun s=>(([],[x],(rName (rWant wAs s)).1),(rName (rWant wAs s)).2)) (fun _=>?_) fun s hs=>by simp only; rw [rWant_bad hs,rName_bad hs]
  refine eqGW (g:=fun s=>(([],[x],(rName s).1),(rName s).2)) (fun _=>?_) fun s hs=>by simp only; rw [rName_bad hs]
  exact eqG2 (g:=fun n=>(([],[x],n.1),n.2)) (name_eqG hl1.tl.tl) (fun n l3 _=>rfl) fun x _=>rfl
 ·refine eqG2 (g:=fun t=>((t.1,[],(asR t.2).1),(asR t.2).2)) (name_eqG hl) (fun t l1 h1=>?_) fun x hx=>as_bad hx
  exact eqG2 (g:=fun x=>((t,[],x.1),x.2)) (as_eqG (hl.sfx (name_sfx _ _ _ h1))) (fun n l2 _=>rfl) fun x _=>rfl
include hSs in
theorem source_sfx (l:List Tk):SfxOk (sourceS st l) l:=by
 unfold sourceS
 split
 ·exact (sfx2 (hSs _) fun x l1 _=>sfx1 fun l2=>sfx2 (name_sfx l2) fun n l3 _=>.ok (List.suffix_refl _)).up (tail_sfx l)
 ·exact sfx2 (name_sfx l) fun t l1 _=>sfx2 (as_sfx l1) fun n l2 _=>.ok (List.suffix_refl _)
include hTb hSb in
theorem join_bad (k:Nat) {s:RS} (h:0≤s.2):(joinR rt rs k s).2=s:=by
 unfold joinR
 rw [rWant_bad h]
 simp only
 split
 ·exact source_bad hSb h
 ·rw [source_bad hSb h,rWant_bad h,hTb s h]
/-- The program's number of a kind, and the reference's. -/
def kindR (k:Nat):Nat:=if 6<k then 0 else max k 1
include hT hTb hS hSs hSb in
theorem join_eqG (k:Nat) {l:List Tk} (hl:okL l):EqG (joinS tm st k l) (joinR rt rs (kindR k) (l,-1)):=by
 unfold joinS joinR
 refine eqGW (g:=fun s=>if kindR k=0 then (Jo.mk 0 (sourceR rs s).1.1 (sourceR rs s).1.2.1 (sourceR rs s).1.2.2 [],(sourceR rs s).2) else (Jo.mk (kindR k:Nat) (sourceR rs s).1.1 (sourceR rs s).1.2.1 (sourceR rs s).1.2.2 [(rt (rWant wOn (sourceR rs s).2)).1],(rt (rWant wOn (sourceR rs s).2)).2)) (fun _=>?_) fun s hs=>?_
 ·refine eqG2 (g:=fun x=>if kindR k=0 then (Jo.mk 0 x.1.1 x.1.2.1 x.1.2.2 [],x.2) else (Jo.mk (kindR k:Nat) x.1.1 x.1.2.1 x.1.2.2 [(rt (rWant wOn x.2)).1],(rt (rWant wOn x.2)).2)) (source_eqG hS hSs hl.tl) (fun s l2 h2=>?_) fun x hx=>?_
  ·have hl2:=hl.tl.sfx (source_sfx hSs _ _ _ h2)
   by_cases hk:6<k
   ·have e:kindR k=0:=by unfold kindR; rw [if_pos hk]
    rw [if_pos hk]
    simp only [e,if_true]
    rfl
   ·have e:kindR k=max k 1:=by unfold kindR; rw [if_neg hk]
    have e0:¬ kindR k=0:=by omega
    rw [if_neg hk]
    simp only [e0,if_false]
    refine eqGW (g:=fun x=>(Jo.mk (kindR k:Nat) s.1 s.2.1 s.2.2 [(rt x).1],(rt x).2)) (fun _=>?_) fun x hx=>hTb x hx
    exact eqG2 (g:=fun x=>(Jo.mk (kindR k:Nat) s.1 s.2.1 s.2.2 [x.1],x.2)) (hT _ hl2.tl) (fun t l4 _=>by rw [e]; rfl) fun x _=>rfl
  ·split
   ·rfl
   ·rw [rWant_bad hx,hTb _ hx]
 ·split
  ·exact source_bad hSb hs
  ·rw [source_bad hSb hs,rWant_bad hs,hTb _ hs]
include hTs hSs in
theorem join_sfx (k:Nat) (l:List Tk):SfxOk (joinS tm st k l) l:=by
 unfold joinS
 refine sfx1 fun l1=>sfx2 (source_sfx hSs l1) fun s l2 _=>?_
 split
 ·exact .ok (List.suffix_refl _)
 ·exact sfx1 fun l3=>sfx2 (hTs l3) fun t l4 _=>.ok (List.suffix_refl _)
theorem joins_bad {s:RS} (h:0≤s.2):∀ (k:Nat) (js:List Jo),joinsR rt rs k js s=(js,s)
 | 0,js=>rfl
 | k+1,js=>by rw [joinsR,if_pos h]
/-- At most one of the words stands there, so that their order does not matter. -/
theorem joi_order (l:List Tk):(oneOf joiR l).map (fun i=>i)=(oneOf joiW l).map fun i=>kindR (i+1):=by
 cases l with
 | nil=>rw [one_nil,one_nil]; rfl
 | cons t r =>
   unfold oneOf joiR joiW isW
   cases hk:(t.kd==1||t.kd==4) with
   | false=>simp only [hk,Bool.false_and,List.findIdx?_cons,List.findIdx?_nil]; rfl
   | true =>
     simp only [hk,Bool.true_and,List.findIdx?_cons,List.findIdx?_nil,beq_iff_eq]
     by_cases a1:t.rw=[99,114,111,115,115]
     ·rw [a1]; decide
     by_cases a2:t.rw=[105,110,110,101,114]
     ·rw [a2]; decide
     by_cases a3:t.rw=[108,101,102,116]
     ·rw [a3]; decide
     by_cases a4:t.rw=[114,105,103,104,116]
     ·rw [a4]; decide
     by_cases a5:t.rw=[102,117,108,108]
     ·rw [a5]; decide
     by_cases a6:t.rw=[115,101,109,105]
     ·rw [a6]; decide
     by_cases a7:t.rw=[97,110,116,105]
     ·rw [a7]; decide
     simp [a1,a2,a3,a4,a5,a6,a7]
include hT hTb hTs hS hSb hSs in
theorem joins_eqG:∀ (k:Nat) (js:List Jo) (l:List Tk),okL l→EqG (joinsS tm st k js l) (joinsR rt rs k js (l,-1))
 | 0,js,l,hl=>rfl
 | k+1,js,l,hl=>by
   rw [joinsS,joinsR,if_neg (show ¬ (0:Int)≤((l,-1):RS).2 by simp),rOne_good]
   have ho:=joi_order l
   cases h1:oneOf joiW l with
   | none =>
     rw [h1] at ho
     have h2:oneOf joiR l=none:=by simpa using ho
     rw [h2]
     simp only
     rw [rIs_good]
     split
     ·exact eqG2 (g:=fun x=>joinsR rt rs k (js++[x.1]) x.2) (join_eqG hT hTb hS hSb hSs 0 hl) (fun j l' h=>joins_eqG k _ l' (hl.sfx (join_sfx hTs hSs 0 _ _ _ h))) fun x hx=>by rw [joins_bad hx]
     ·rfl
   | some i =>
     rw [h1] at ho
     have h2:oneOf joiR l=some (kindR (i+1)):=by simpa using ho
     rw [h2]
     simp only [rNext_good]
     exact eqG2 (g:=fun x=>joinsR rt rs k (js++[x.1]) x.2) (join_eqG hT hTb hS hSb hSs (i+1) hl.tl) (fun j l' h=>joins_eqG k _ l' (hl.tl.sfx (join_sfx hTs hSs _ _ _ _ h))) fun x hx=>by rw [joins_bad hx]
include hTs hSs in
theorem joins_sfx:∀ (k:Nat) (js:List Jo) (l:List Tk),SfxOk (joinsS tm st k js l) l
 | 0,js,l=>.ok (List.suffix_refl _)
 | k+1,js,l=>by
   rw [joinsS]
   split
   ·exact (sfx2 (join_sfx hTs hSs _ _) fun j l' _=>joins_sfx k _ l').up (tail_sfx l)
   ·split
    ·exact sfx2 (join_sfx hTs hSs _ _) fun j l' _=>joins_sfx k _ l'
    ·exact .ok (List.suffix_refl _)
theorem one_bad (w:List UInt8) {s:RS} (h:0≤s.2):oneR rt w s=([],s):=by unfold oneR; rw [rIs_bad h]; simp
include hT in
theorem one_eqG (w:List UInt8) {l:List Tk} (hl:okL l):EqG (oneS tm w l) (oneR rt w (l,-1)):=by
 unfold oneS oneR
 rw [rIs_good,rNext_good]
 split
 ·exact eqG2 (g:=fun x=>([x.1],x.2)) (hT _ hl.tl) (fun t l' _=>rfl) fun x _=>rfl
 ·rfl
include hTs in
theorem one_sfx (w:List UInt8) (l:List Tk):SfxOk (oneS tm w l) l:=by
 unfold oneS
 split
 ·exact (sfx2 (hTs _) fun t l' _=>.ok (List.suffix_refl _)).up (tail_sfx l)
 ·exact .ok (List.suffix_refl _)
theorem group_bad {s:RS} (h:0≤s.2):groupR rt s=([],s):=by unfold groupR; rw [rIs_bad h]; simp
include hT hTb hTs in
theorem group_eqG {l:List Tk} (hl:okL l):EqG (groupS tm l) (groupR rt (l,-1)):=by
 unfold groupS groupR
 rw [rIs_good,rNext_good]
 split
 ·refine eqGW (g:=fun s=>moreR rt (rt s).2.1.length [(rt s).1] (rt s).2) (fun _=>?_) fun s hs=>by simp only [hTb s hs]; rw [more_bad hs]
  refine eqG2 (g:=fun x=>moreR rt x.2.1.length [x.1] x.2) (hT _ hl.tl.tl) (fun t l2 h2=>?_) fun x hx=>by rw [more_bad hx]
  exact eqG_ofL (more_eqv (fun l hl=>by
   have:=hT l hl
   cases hr:tm l with
   | error p=>rw [hr] at this; exact this
   | ok x=>rw [hr] at this; exact this) hTs _ _ l2 (hl.tl.tl.sfx (hTs _ _ _ h2)))
 ·rfl
include hTs in
theorem group_sfx (l:List Tk):SfxOk (groupS tm l) l:=by
 unfold groupS
 split
 ·exact (sfx1 fun l1=>sfx2 (hTs l1) fun t l2 _=>more_sfx hTs _ _ l2).up (tail_sfx l)
 ·exact .ok (List.suffix_refl _)
include hTb in
theorem star_bad {s:RS} (h:0≤s.2):(starR rt s).2=s:=by
 unfold starR
 rw [rIs_bad h]
 simp only [Bool.false_eq_true,if_false]
 rw [item_bad hTb h,items_bad h]
include hT hTs in
theorem star_eqG {l:List Tk} (hl:okL l):EqG (starS tm l) (starR rt (l,-1)):=by
 unfold starS starR
 rw [rIs_good,rNext_good]
 split
 ·rfl
 ·exact eqG2 (g:=fun x=>itemsR rt x.2.1.length [x.1] x.2) (item_eqG hT hTs hl) (fun i l' h=>items_eqG hT hTs _ _ l' (hl.sfx (item_sfx hTs _ _ _ h))) fun x hx=>by rw [items_bad hx]
include hTs in
theorem star_sfx (l:List Tk):SfxOk (starS tm l) l:=by
 unfold starS
 split
 ·exact .ok (tail_sfx l)
 ·exact sfx2 (item_sfx hTs l) fun i l' _=>items_sfx hTs _ _ l'
include hTb hSb in
theorem sel_bad {s:RS} (h:0≤s.2):(selR rt rs s).2=s:=by
 unfold selR
 simp only [rWant_bad h,opt_bad h,star_bad hTb h,source_bad hSb h,joins_bad h,one_bad _ h,group_bad h]
include hT hTb hTs hS hSb hSs in
theorem sel_eqG {l:List Tk} (hl:okL l):EqG (selS tm st l) (selR rt rs (l,-1)):=by
 unfold selS selR
 refine eqGW (g:=fun s0 =>
  (Sm.mk 1 false (rOpt wDistinct s0).1 (rIs wStar (rOpt wDistinct s0).2) (starR rt (rOpt wDistinct s0).2).1 (sourceR rs (rWant wFrom (starR rt (rOpt wDistinct s0).2).2)).1.1 (sourceR rs (rWant wFrom (starR rt (rOpt wDistinct s0).2).2)).1.2.1 (sourceR rs (rWant wFrom (starR rt (rOpt wDistinct s0).2).2)).1.2.2
   (joinsR rt rs (sourceR rs (rWant wFrom (starR rt (rOpt wDistinct s0).2).2)).2.1.length [] (sourceR rs (rWant wFrom (starR rt (rOpt wDistinct s0).2).2)).2).1
   (oneR rt wWhere (joinsR rt rs (sourceR rs (rWant wFrom (starR rt (rOpt wDistinct s0).2).2)).2.1.length [] (sourceR rs (rWant wFrom (starR rt (rOpt wDistinct s0).2).2)).2).2).1
   (groupR rt (oneR rt wWhere (joinsR rt rs (sourceR rs (rWant wFrom (starR rt (rOpt wDistinct s0).2).2)).2.1.length [] (sourceR rs (rWant wFrom (starR rt (rOpt wDistinct s0).2).2)).2).2).2).1
   (oneR rt wHaving (groupR rt (oneR rt wWhere (joinsR rt rs (sourceR rs (rWant wFrom (starR rt (rOpt wDistinct s0).2).2)).2.1.length [] (sourceR rs (rWant wFrom (starR rt (rOpt wDistinct s0).2).2)).2).2).2).2).1 [],
  (oneR rt wHaving (groupR rt (oneR rt wWhere (joinsR rt rs (sourceR rs (rWant wFrom (starR rt (rOpt wDistinct s0).2).2)).2.1.length [] (sourceR rs (rWant wFrom (starR rt (rOpt wDistinct s0).2).2)).2).2).2).2).2)) (fun _=>?_) fun s hs=>by
   simp only [rWant_bad hs,opt_bad hs,star_bad hTb hs,source_bad hSb hs,joins_bad hs,one_bad _ hs,group_bad hs]
 simp only [optG,rIs_good]
 have hl1:=hl.tl.sfx (opt_sfx wDistinct l.tail)
 generalize hd:(optW wDistinct l.tail).1=dd
 generalize hm:(optW wDistinct l.tail).2=m at *
 generalize hst:isW wStar m=sb
 refine eqG2 (g:=fun x=>(Sm.mk 1 false dd sb x.1 (sourceR rs (rWant wFrom x.2)).1.1 (sourceR rs (rWant wFrom x.2)).1.2.1 (sourceR rs (rWant wFrom x.2)).1.2.2
   (joinsR rt rs (sourceR rs (rWant wFrom x.2)).2.1.length [] (sourceR rs (rWant wFrom x.2)).2).1
   (oneR rt wWhere (joinsR rt rs (sourceR rs (rWant wFrom x.2)).2.1.length [] (sourceR rs (rWant wFrom x.2)).2).2).1
   (groupR rt (oneR rt wWhere (joinsR rt rs (sourceR rs (rWant wFrom x.2)).2.1.length [] (sourceR rs (rWant wFrom x.2)).2).2).2).1
   (oneR rt wHaving (groupR rt (oneR rt wWhere (joinsR rt rs (sourceR rs (rWant wFrom x.2)).2.1.length [] (sourceR rs (rWant wFrom x.2)).2).2).2).2).1 [],
  (oneR rt wHaving (groupR rt (oneR rt wWhere (joinsR rt rs (sourceR rs (rWant wFrom x.2)).2.1.length [] (sourceR rs (rWant wFrom x.2)).2).2).2).2).2)) (star_eqG hT hTs hl1) (fun is l2 h2=>?_) fun x hx=>by
   simp only [rWant_bad hx,source_bad hSb hx,joins_bad hx,one_bad _ hx,group_bad hx]
 have hl2:=hl1.sfx (star_sfx hTs _ _ _ h2)
 refine eqGW (g:=fun s=>(Sm.mk 1 false dd sb is (sourceR rs s).1.1 (sourceR rs s).1.2.1 (sourceR rs s).1.2.2
   (joinsR rt rs (sourceR rs s).2.1.length [] (sourceR rs s).2).1
   (oneR rt wWhere (joinsR rt rs (sourceR rs s).2.1.length [] (sourceR rs s).2).2).1
   (groupR rt (oneR rt wWhere (joinsR rt rs (sourceR rs s).2.1.length [] (sourceR rs s).2).2).2).1
   (oneR rt wHaving (groupR rt (oneR rt wWhere (joinsR rt rs (sourceR rs s).2.1.length [] (sourceR rs s).2).2).2).2).1 [],
  (oneR rt wHaving (groupR rt (oneR rt wWhere (joinsR rt rs (sourceR rs s).2.1.length [] (sourceR rs s).2).2).2).2).2)) (fun _=>?_) fun s hs=>by
   simp only [source_bad hSb hs,joins_bad hs,one_bad _ hs,group_bad hs]
 refine eqG2 (g:=fun x:So×RS=>(Sm.mk 1 false dd sb is x.1.1 x.1.2.1 x.1.2.2
   (joinsR rt rs x.2.1.length [] x.2).1
   (oneR rt wWhere (joinsR rt rs x.2.1.length [] x.2).2).1
   (groupR rt (oneR rt wWhere (joinsR rt rs x.2.1.length [] x.2).2).2).1
   (oneR rt wHaving (groupR rt (oneR rt wWhere (joinsR rt rs x.2.1.length [] x.2).2).2).2).1 [],
  (oneR rt wHaving (groupR rt (oneR rt wWhere (joinsR rt rs x.2.1.length [] x.2).2).2).2).2)) (source_eqG hS hSs hl2.tl) (fun s l4 h4=>?_) fun x hx=>by
   simp only [joins_bad hx,one_bad _ hx,group_bad hx]
 have hl4:=hl2.tl.sfx (source_sfx hSs _ _ _ h4)
 refine eqG2 (g:=fun x=>(Sm.mk 1 false dd sb is s.1 s.2.1 s.2.2 x.1 (oneR rt wWhere x.2).1 (groupR rt (oneR rt wWhere x.2).2).1 (oneR rt wHaving (groupR rt (oneR rt wWhere x.2).2).2).1 [],
  (oneR rt wHaving (groupR rt (oneR rt wWhere x.2).2).2).2)) (joins_eqG hT hTb hTs hS hSb hSs _ _ l4 hl4) (fun js l5 h5=>?_) fun x hx=>by
   simp only [one_bad _ hx,group_bad hx]
 have hl5:=hl4.sfx (joins_sfx hTs hSs _ _ _ _ _ h5)
 refine eqG2 (g:=fun x=>(Sm.mk 1 false dd sb is s.1 s.2.1 s.2.2 js x.1 (groupR rt x.2).1 (oneR rt wHaving (groupR rt x.2).2).1 [],(oneR rt wHaving (groupR rt x.2).2).2)) (one_eqG hT wWhere hl5) (fun w l6 h6=>?_) fun x hx=>by
   simp only [one_bad _ hx,group_bad hx]
 have hl6:=hl5.sfx (one_sfx hTs wWhere _ _ _ h6)
 refine eqG2 (g:=fun x=>(Sm.mk 1 false dd sb is s.1 s.2.1 s.2.2 js w x.1 (oneR rt wHaving x.2).1 [],(oneR rt wHaving x.2).2)) (group_eqG hT hTb hTs hl6) (fun g l7 h7=>?_) fun x hx=>by
   simp only [one_bad _ hx]
 have hl7:=hl6.sfx (group_sfx hTs _ _ _ h7)
 exact eqG2 (g:=fun x=>(Sm.mk 1 false dd sb is s.1 s.2.1 s.2.2 js w g x.1 [],x.2)) (one_eqG hT wHaving hl7) (fun h l8 _=>rfl) fun x _=>rfl
include hTs hSs in
theorem sel_sfx (l:List Tk):SfxOk (selS tm st l) l:=by
 unfold selS
 refine sfx1 fun l1=>(sfx2 (star_sfx hTs _) fun is l2 _=>sfx1 fun l3=>sfx2 (source_sfx hSs l3) fun s l4 _=>sfx2 (joins_sfx hTs hSs _ _ l4) fun js l5 _=>sfx2 (one_sfx hTs _ l5) fun w l6 _=>sfx2 (group_sfx hTs l6) fun g l7 _=>sfx2 (one_sfx hTs _ l7) fun h l8 _=>.ok (List.suffix_refl _)).up (opt_sfx _ _)
include hTb hSb in
theorem core_bad {s:RS} (h:0≤s.2):(coreR rt rs s).2=s:=by
 unfold coreR
 rw [rIs_bad h]
 simp only [Bool.false_eq_true,if_false]
 exact sel_bad hTb hSb h
include hT hTb hTs hS hSb hSs in
theorem core_eqG {l:List Tk} (hl:okL l):EqG (coreS tm st l) (coreR rt rs (l,-1)):=by
 unfold coreS coreR
 rw [rIs_good,rNext_good]
 split
 ·exact eqG2 (g:=fun x=>(x.1,rWant wShut x.2)) (hS _ hl.tl) (fun x l1 _=>eqGE _) fun x hx=>rWant_bad hx _
 ·exact sel_eqG hT hTb hTs hS hSb hSs hl
include hTs hSs in
theorem core_sfx (l:List Tk):SfxOk (coreS tm st l) l:=by
 unfold coreS
 split
 ·exact (sfx2 (hSs _) fun x l1 _=>sfx1 fun l2=>.ok (List.suffix_refl _)).up (tail_sfx l)
 ·exact sel_sfx hTs hSs l
theorem stmt_bad {s:RS} (h:0≤s.2):∀ (k:Nat) (x:Sm),stmtR rt rs k x s=(x,s)
 | 0,x=>rfl
 | k+1,x=>by rw [stmtR,rOne_bad h]
include hT hTb hTs hS hSb hSs in
theorem stmt_eqG:∀ (k:Nat) (x:Sm) (l:List Tk),okL l→EqG (stmtS tm st k x l) (stmtR rt rs k x (l,-1))
 | 0,x,l,hl=>rfl
 | k+1,x,l,hl=>by
   rw [stmtS,stmtR,rOne_good]
   cases h1:oneOf setW l with
   | none=>rfl
   | some i =>
     simp only [rNext_good,optG]
     have hl1:=hl.tl.sfx (opt_sfx wAll l.tail)
     exact eqG2 (g:=fun y=>stmtR rt rs k (setS i (optW wAll l.tail).1 x y.1) y.2) (core_eqG hT hTb hTs hS hSb hSs hl1) (fun y l' h=>stmt_eqG k _ l' (hl1.sfx (core_sfx hTs hSs _ _ _ h))) fun y hy=>by rw [stmt_bad hy]
include hTs hSs in
theorem stmt_sfx:∀ (k:Nat) (x:Sm) (l:List Tk),SfxOk (stmtS tm st k x l) l
 | 0,x,l=>.ok (List.suffix_refl _)
 | k+1,x,l=>by
   rw [stmtS]
   split
   ·exact .ok (List.suffix_refl _)
   ·exact (sfx2 (core_sfx hTs hSs _) fun y l' _=>stmt_sfx k _ l').up ((opt_sfx _ _).trans (tail_sfx l))
end
theorem parG (N:Nat):∀ l,okL l→EqG (parP N 0 l) (parR N 0 (l,-1)):=fun l hl=>eqG_of (par_eqv N 0 l hl)
theorem stmtQ_bad (N:Nat):∀ (n:Nat) (s:RS),0≤s.2→(stmtQ N n s).2=s
 | 0,s,h=>by rw [stmtQ,rFail_bad h]
 | n+1,s,h=>by
   rw [stmtQ]
   have e:=core_bad (rt:=parR N 0) (rs:=stmtQ N n) (par_bad N 0) (stmtQ_bad N n) h
   rw [e,stmt_bad h]
theorem stmtP_sfx (N:Nat):∀ (n:Nat) (l:List Tk),SfxOk (stmtP N n l) l
 | 0,l=>.err _
 | n+1,l=>by
   rw [stmtP]
   exact sfx2 (core_sfx (par_sfx N 0) (stmtP_sfx N n) l) fun x l' _=>stmt_sfx (par_sfx N 0) (stmtP_sfx N n) _ _ l'
/-- Both read the same statements. -/
theorem stmt_eqv (N:Nat):∀ (n:Nat) (l:List Tk),okL l→EqG (stmtP N n l) (stmtQ N n (l,-1))
 | 0,l,hl=>by rw [stmtP,stmtQ]; rfl
 | n+1,l,hl=>by
   rw [stmtP,stmtQ]
   exact eqG2 (g:=fun x=>stmtR (parR N 0) (stmtQ N n) x.2.1.length x.1 x.2) (core_eqG (parG N) (par_bad N 0) (par_sfx N 0) (stmt_eqv N n) (stmtQ_bad N n) (stmtP_sfx N n) hl) (fun x l' h=>stmt_eqG (parG N) (par_bad N 0) (par_sfx N 0) (stmt_eqv N n) (stmtQ_bad N n) (stmtP_sfx N n) _ _ l' (hl.sfx (core_sfx (par_sfx N 0) (stmtP_sfx N n) _ _ _ h))) fun x hx=>by rw [stmt_bad hx]
end Go.Proofs.Tryz
