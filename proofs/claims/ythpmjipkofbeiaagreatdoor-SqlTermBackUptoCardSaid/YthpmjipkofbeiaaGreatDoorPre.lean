import Derived.Test.YthpmjipkofbeiaaGreatDoorPrs
set_option linter.all false
namespace Go.Proofs.Tryz
open Go.Ab
set_option maxRecDepth 100000
set_option maxHeartbeats 4000000
theorem bind21 {α β:Type} (a:Except Nat (List Tk)) (f:List Tk→Res α) (g:α→List Tk→Res β):bind2 (bind1 a f) g=bind1 a fun l=>bind2 (f l) g:=by cases a <;> rfl
theorem bind22 {α β γ:Type} (a:Res α) (f:α→List Tk→Res β) (g:β→List Tk→Res γ):bind2 (bind2 a f) g=bind2 a fun t l=>bind2 (f t l) g:=by cases a <;> rfl
theorem bind2_ok {α β:Type} (t:α) (l:List Tk) (f:α→List Tk→Res β):bind2 (.ok (t,l)) f=f t l:=rfl
structure TkOk (t:Tk):Prop where
 tx:t.kd=1∨t.kd=4→t.tx=t.rw
 num:t.kd=2→(t.n=0↔t.rw=[48])
def okL (l:List Tk):Prop:=∀ t∈l,TkOk t
theorem okL.sfx {l l':List Tk} (h:okL l) (hs:l' <:+ l):okL l':=fun t ht=>h t (hs.subset ht)
theorem okL.tl {l:List Tk} (h:okL l):okL l.tail:=h.sfx (tail_sfx l)
def Eqv (r:Res Tm) (q:Tm×RS):Prop:=match r with
 | .ok (t,l)=>q=(t,(l,-1))
 | .error p=>q.2.2=(p:Int)
theorem one_nil (ws:List (List UInt8)):oneOf ws []=none:=by
 unfold oneOf
 rw [List.findIdx?_eq_none_iff]
 intro x _
 rfl
theorem rIs_good (w:List UInt8) (l:List Tk):rIs w (l,-1)=isW w l:=by simp [rIs]
theorem rNext_good (l:List Tk):rNext (l,-1)=(l.tail,-1):=by simp [rNext]
theorem rFail_good (l:List Tk):rFail (l,-1)=(l,(posT l:Int)):=by simp [rFail]
theorem rOne_good (ws:List (List UInt8)) (l:List Tk):rOne ws (l,-1)=oneOf ws l:=by simp [rOne]
theorem rWant_good (w:List UInt8) (l:List Tk):rWant w (l,-1)=if isW w l=true then (l.tail,-1) else (l,(posT l:Int)):=by
 unfold rWant
 rw [rIs_good,rNext_good,rFail_good]
section
variable {s:RS} (h:0≤s.2)
include h
theorem rIs_bad (w:List UInt8):rIs w s=false:=by unfold rIs; simp; omega
theorem rFail_bad:rFail s=s:=by unfold rFail; rw [if_neg (by omega)]
theorem rOne_bad (ws:List (List UInt8)):rOne ws s=none:=by unfold rOne; rw [if_neg (by omega)]
theorem rWant_bad (w:List UInt8):rWant w s=s:=by unfold rWant; rw [rIs_bad h,rFail_bad h]; simp
theorem chain_bad (part:RS→Tm×RS) (sg:List (List UInt8)) (ops:List Int):∀ (k:Nat) (out:Tm),chainR part sg ops k out s=(out,s)
 | 0,out=>rfl
 | k+1,out=>by rw [chainR,rOne_bad h]
theorem more_bad (part:RS→Tm×RS):∀ (k:Nat) (ks:List Tm),moreR part k ks s=(ks,s)
 | 0,ks=>rfl
 | k+1,ks=>by rw [moreR,rIs_bad h]; simp
end
theorem par_bad:∀ (n lvl:Nat) (s:RS),0≤s.2→(parR n lvl s).2=s
 | 0,lvl,s,h=>by rw [parR,rFail_bad h]
 | n+1,0,s,h=>by
   have e:=par_bad n 1 s h
   rw [parR,e,chain_bad h]
 | n+1,1,s,h=>by
   have e:=par_bad n 2 s h
   rw [parR,e,chain_bad h]
 | n+1,2,s,h=>by
   rw [parR,rIs_bad h]
   exact par_bad n 3 s h
 | n+1,3,s,h=>by
   have e:=par_bad n 4 s h
   rw [parR]
   simp only [e,rOne_bad h,rIs_bad h]
   exact e
 | n+1,4,s,h=>by
   have e:=par_bad n 5 s h
   rw [parR,e,chain_bad h]
 | n+1,5,s,h=>by
   have e:=par_bad n 6 s h
   rw [parR,e,chain_bad h]
 | n+1,6,s,h=>by
   rw [parR,rIs_bad h]
   exact par_bad n 7 s h
 | n+1,m+7,s,h=>by rw [parR,if_pos h]
theorem eqv2 {r:Res Tm} {q:Tm×RS} (h:Eqv r q) {f:Tm→List Tk→Res Tm} {g:Tm×RS→Tm×RS} (hf:∀ t l,r=.ok (t,l)→Eqv (f t l) (g (t,(l,-1)))) (hb:∀ q:Tm×RS,0≤q.2.2→(g q).2.2=q.2.2):Eqv (bind2 r f) (g q):=by
 cases r with
 | error p =>
   have h':q.2.2=(p:Int):=h
   show (g q).2.2=(p:Int)
   rw [hb q (by omega),h']
 | ok x =>
   obtain ⟨t,l⟩:=x
   have h':q=(t,(l,-1)):=h
   rw [h']
   exact hf t l rfl
theorem eqvW {w:List UInt8} {l:List Tk} {f:List Tk→Res Tm} {g:RS→Tm×RS} (hf:isW w l=true→Eqv (f l.tail) (g (l.tail,-1))) (hb:∀ s:RS,0≤s.2→(g s).2.2=s.2):Eqv (bind1 (expS [w] l) f) (g (rWant w (l,-1))):=by
 rw [rWant_good]
 simp only [expS]
 split
 ·rename_i h
  exact hf h
 ·show (g (l,(posT l:Int))).2.2=(posT l:Int)
  rw [hb _ (by simp only; omega)]
theorem eqvE {w:List UInt8} {l:List Tk} (t:Tm):Eqv (bind1 (expS [w] l) fun l'=>.ok (t,l')) (t,rWant w (l,-1)) :=
 eqvW (g:=fun s=>(t,s)) (fun _=>rfl) fun s _=>rfl
theorem want_bad2 (w:List UInt8) {s:RS} (h:0≤s.2):(rWant w s).2=s.2:=by rw [rWant_bad h]
theorem chain_eqv {p:List Tk→Res Tm} {q:RS→Tm×RS} (hG:∀ l,okL l→Eqv (p l) (q (l,-1))) (hs:∀ l,SfxOk (p l) l) (sg:List (List UInt8)) (ops:List Int):∀ (k:Nat) (out:Tm) (l:List Tk),okL l→Eqv (chainS p sg ops k out l) (chainR q sg ops k out (l,-1))
 | 0,out,l,hl=>rfl
 | k+1,out,l,hl=>by
   rw [chainS,chainR,rOne_good]
   cases h:oneOf sg l with
   | none=>rfl
   | some i =>
     simp only [rNext_good]
     have e:=hG l.tail hl.tl
     cases hr:p l.tail with
     | error pp =>
       rw [hr] at e
       have e':(q (l.tail,-1)).2.2=(pp:Int):=e
       show (chainR q sg ops k _ (q (l.tail,-1)).2).2.2=(pp:Int)
       rw [chain_bad (by omega)]
       exact e'
     | ok x =>
       obtain ⟨t,l'⟩:=x
       rw [hr] at e
       have e':q (l.tail,-1)=(t,(l',-1)):=e
       rw [e']
       exact chain_eqv hG hs sg ops k _ l' (hl.tl.sfx (hs _ _ _ hr))
theorem level_eqv {p:List Tk→Res Tm} {q:RS→Tm×RS} (hG:∀ l,okL l→Eqv (p l) (q (l,-1))) (hs:∀ l,SfxOk (p l) l) (sg:List (List UInt8)) (ops:List Int) (l:List Tk) (hl:okL l) :
  Eqv (bind2 (p l) fun t l'=>chainS p sg ops l'.length t l') (chainR q sg ops (q (l,-1)).2.1.length (q (l,-1)).1 (q (l,-1)).2) :=
 eqv2 (g:=fun x=>chainR q sg ops x.2.1.length x.1 x.2) (hG l hl) (fun t l' h=>chain_eqv hG hs sg ops _ t l' (hl.sfx (hs _ _ _ h))) fun x hx=>by rw [chain_bad hx]
def EqvL (r:Res (List Tm)) (q:List Tm×RS):Prop:=match r with
 | .ok (t,l)=>q=(t,(l,-1))
 | .error p=>q.2.2=(p:Int)
theorem more_eqv {p:List Tk→Res Tm} {q:RS→Tm×RS} (hG:∀ l,okL l→Eqv (p l) (q (l,-1))) (hs:∀ l,SfxOk (p l) l):∀ (k:Nat) (ks:List Tm) (l:List Tk),okL l→EqvL (moreS p k ks l) (moreR q k ks (l,-1))
 | 0,ks,l,hl=>rfl
 | k+1,ks,l,hl=>by
   rw [moreS,moreR,rIs_good]
   split
   ·simp only [rNext_good]
    have e:=hG l.tail hl.tl
    cases hr:p l.tail with
    | error pp =>
      rw [hr] at e
      have e':(q (l.tail,-1)).2.2=(pp:Int):=e
      show (moreR q k _ (q (l.tail,-1)).2).2.2=(pp:Int)
      rw [more_bad (by omega)]
      exact e'
    | ok x =>
      obtain ⟨t,l'⟩:=x
      rw [hr] at e
      have e':q (l.tail,-1)=(t,(l',-1)):=e
      rw [e']
      exact more_eqv hG hs k _ l' (hl.tl.sfx (hs _ _ _ hr))
   ·rfl
theorem eqvM {r:Res (List Tm)} {q:List Tm×RS} (h:EqvL r q) {f:List Tm→List Tk→Res Tm} {g:List Tm×RS→Tm×RS} (hf:∀ t l,r=.ok (t,l)→Eqv (f t l) (g (t,(l,-1)))) (hb:∀ q:List Tm×RS,0≤q.2.2→(g q).2.2=q.2.2):Eqv (bind2 r f) (g q):=by
 cases r with
 | error p =>
   have h':q.2.2=(p:Int):=h
   show (g q).2.2=(p:Int)
   rw [hb q (by omega),h']
 | ok x =>
   obtain ⟨t,l⟩:=x
   have h':q=(t,(l,-1)):=h
   rw [h']
   exact hf t l rfl
theorem not_name {w:List UInt8} (hw:nameOk rsv w=false) {l:List Tk} (h:nameOk rsv (hdT l).rw=true):isW w l=false:=by
 cases l with
 | nil=>rfl
 | cons t r =>
   cases hh:isW w (t::r) with
   | false=>rfl
   | true =>
     simp only [isW,Bool.and_eq_true,beq_iff_eq] at hh
     simp only [hdT] at h
     rw [hh.2,hw] at h
     cases h
theorem agg_eqv {p:List Tk→Res Tm} {q:RS→Tm×RS} (hG:∀ l,okL l→Eqv (p l) (q (l,-1))) (l:List Tk) (hl:okL l) (i:Nat) (hi:oneOf aggW l=some i) (hqb:∀ s:RS,0≤s.2→(q s).2=s):Eqv (aggS p i l.tail) (aggR q (l,-1)):=by
 unfold aggS aggR
 rw [rOne_good,hi,rNext_good]
 simp only
 refine eqvW (g:=fun s1=>if i=0∧rIs wStar s1=true then (.mk 41 0 1 [] [] [],rWant wShut (rNext s1)) else if i=0∧rIs wDistinct s1=true then (.mk 41 0 3 [] [] [(q (rNext s1)).1],rWant wShut (q (rNext s1)).2) else (.mk 41 0 (aggF i) [] [] [(q s1).1],rWant wShut (q s1).2)) (fun h=>?_) fun s hs=>?_
 ·simp only [rIs_good,rNext_good]
  have hl2:=hl.tl.tl
  split
  ·exact eqvE _
  ·split
   ·exact eqv2 (g:=fun x=>(.mk 41 0 3 [] [] [x.1],rWant wShut x.2)) (hG _ hl2.tl) (fun t l' _=>eqvE _) fun x hx=>want_bad2 _ hx
   ·exact eqv2 (g:=fun x=>(.mk 41 0 (aggF i) [] [] [x.1],rWant wShut x.2)) (hG _ hl2) (fun t l' _=>eqvE _) fun x hx=>want_bad2 _ hx
 ·simp only [rIs_bad hs]
  simp only [Bool.false_eq_true,and_false,if_false]
  rw [hqb s hs,want_bad2 _ hs]
theorem named_good {t:Tk} {r:List Tk} (h:TkOk t):rNamed (t::r,-1)=(t.kd==1&&nameOk rsv t.rw):=by
 unfold rNamed
 simp only [hdT]
 rw [show decide ((-1:Int)<0)=true from rfl,Bool.true_and]
 by_cases hk:t.kd=1
 ·rw [h.tx (.inl hk)]
 ·rw [show (t.kd==1)=false from by simpa using hk,Bool.false_and,Bool.false_and]
theorem name_eqv {l:List Tk} (hl:okL l) {f:List UInt8→List Tk→Res Tm} {g:List UInt8×RS→Tm×RS} (hf:∀ t l',nameS l=.ok (t,l')→Eqv (f t l') (g (t,(l',-1)))) (hb:∀ q:List UInt8×RS,0≤q.2.2→(g q).2.2=q.2.2):Eqv (bind2 (nameS l) f) (g (rName (l,-1))):=by
 cases l with
 | nil =>
   show (g (rName ([],-1))).2.2=((0:Nat):Int)
   have e:rName (([],-1):RS)=([],([],0)):=by simp [rName,rNamed,rFail,hdT,posT]
   rw [e,hb _ (by simp)]
   rfl
 | cons t r =>
   have ht:=hl t List.mem_cons_self
   unfold rName
   rw [named_good ht]
   unfold nameS at hf ⊢
   simp only at hf ⊢
   by_cases hk:t.kd=1∧nameOk rsv t.rw=true
   ·rw [if_pos hk] at hf ⊢
    have e:(t.kd==1&&nameOk rsv t.rw)=true:=by simp [hk]
    rw [e,if_pos rfl,rNext_good]
    simp only [hdT,List.tail_cons]
    rw [ht.tx (.inl hk.1)]
    exact hf _ _ rfl
   ·rw [if_neg hk]
    have e:¬ (t.kd==1&&nameOk rsv t.rw)=true:=by simpa using hk
    rw [if_neg e,rFail_good]
    show (g ([],(t::r,(posT (t::r):Int)))).2.2=(t.fr:Int)
    rw [hb _ (by simp only; omega)]
    rfl
theorem par_eqv:∀ (n lvl:Nat) (l:List Tk),okL l→Eqv (parP n lvl l) (parR n lvl (l,-1))
 | 0,lvl,l,hl=>by rw [parP,parR]; rfl
 | n+1,0,l,hl=>by rw [parP,parR]; exact level_eqv (par_eqv n 1) (par_sfx n 1) _ _ l hl
 | n+1,1,l,hl=>by rw [parP,parR]; exact level_eqv (par_eqv n 2) (par_sfx n 2) _ _ l hl
 | n+1,2,l,hl=>by
   rw [parP,parR,rIs_good,rNext_good]
   split
   ·exact eqv2 (g:=fun x=>(mkT 24 [x.1],x.2)) (par_eqv n 2 _ hl.tl) (fun t l' _=>rfl) fun x _=>rfl
   ·exact par_eqv n 3 l hl
 | n+1,3,l,hl=>by
   rw [parP,parR]
   refine eqv2 (g:=fun a=>match rOne cmpW a.2 with
    | some i=>(mkT (14+i) [a.1,(parR n 4 (rNext a.2)).1],(parR n 4 (rNext a.2)).2)
    | none =>
      if rIs wIn a.2=true then
       (mkT 28 (moreR (parR n 0) (parR n 0 (rWant wOpen (rNext a.2))).2.1.length [a.1,(parR n 0 (rWant wOpen (rNext a.2))).1] (parR n 0 (rWant wOpen (rNext a.2))).2).1,rWant wShut (moreR (parR n 0) (parR n 0 (rWant wOpen (rNext a.2))).2.1.length [a.1,(parR n 0 (rWant wOpen (rNext a.2))).1] (parR n 0 (rWant wOpen (rNext a.2))).2).2)
      else if rIs wIs a.2=true then
       if rIs wNull (rNext a.2)=true then (mkT 21 [a.1],rNext (rNext a.2))
       else if rIs wTrue (rNext a.2)=true then (mkT 25 [a.1],rNext (rNext a.2))
       else if rIs wNot (rNext a.2)=true then (mkT 24 [mkT 21 [a.1]],rWant wNull (rNext (rNext a.2)))
       else (a.1,rFail (rNext a.2))
      else a) (par_eqv n 4 l hl) (fun a l' ha=>?_) fun a ha=>?_
   ·have hl':=hl.sfx (par_sfx n 4 _ _ _ ha)
    simp only [rOne_good,rNext_good,rIs_good,rFail_good]
    cases hc:oneOf cmpW l' with
    | some i=>exact eqv2 (g:=fun x=>(mkT (14+i) [a,x.1],x.2)) (par_eqv n 4 _ hl'.tl) (fun t l' _=>rfl) fun x _=>rfl
    | none =>
      simp only
      by_cases h1:isW wIs l'=true
      ·have h2:isW wIn l'=false:=by
        cases l' with
        | nil=>rfl
        | cons t r =>
          simp only [isW,Bool.and_eq_true,beq_iff_eq] at h1
          simp only [isW,h1.2]
          simp [wIs,wIn]
       rw [if_pos h1,if_neg (show ¬ isW wIn l'=true by rw [h2]; simp),if_pos h1]
       by_cases n1:isW wNull l'.tail=true
       ·rw [if_pos n1,if_pos n1]; rfl
       ·rw [if_neg n1,if_neg n1]
        by_cases n2:isW wTrue l'.tail=true
        ·rw [if_pos n2,if_pos n2]; rfl
        ·rw [if_neg n2,if_neg n2]
         by_cases h3:isW wNot l'.tail=true
         ·have e:expS [wNot,wNull] l'.tail=expS [wNull] l'.tail.tail:=by rw [expS,if_pos h3]
          rw [e,if_pos h3]
          exact eqvE _
         ·have e:expS [wNot,wNull] l'.tail=.error (posT l'.tail):=by rw [expS,if_neg h3]
          rw [e,if_neg h3]
          rfl
      ·rw [if_neg h1,if_neg h1]
       split
       ·refine eqvW (g:=fun s=>(mkT 28 (moreR (parR n 0) (parR n 0 s).2.1.length [a,(parR n 0 s).1] (parR n 0 s).2).1,rWant wShut (moreR (parR n 0) (parR n 0 s).2.1.length [a,(parR n 0 s).1] (parR n 0 s).2).2)) (fun _=>?_) fun s hs=>?_
        ·refine eqv2 (g:=fun x=>(mkT 28 (moreR (parR n 0) x.2.1.length [a,x.1] x.2).1,rWant wShut (moreR (parR n 0) x.2.1.length [a,x.1] x.2).2)) (par_eqv n 0 _ hl'.tl.tl) (fun b l3 hb=>?_) fun x hx=>?_
         ·have hl3:=hl'.tl.tl.sfx (par_sfx n 0 _ _ _ hb)
          exact eqvM (g:=fun x=>(mkT 28 x.1,rWant wShut x.2)) (more_eqv (par_eqv n 0) (par_sfx n 0) _ _ l3 hl3) (fun ks l4 _=>eqvE _) fun x hx=>want_bad2 _ hx
         ·rw [more_bad hx]
          exact want_bad2 _ hx
        ·have e:=par_bad n 0 s hs
         simp only [e]
         rw [more_bad hs]
         exact want_bad2 _ hs
       ·rfl
   ·simp only [rOne_bad ha,rIs_bad ha]
    rfl
 | n+1,4,l,hl=>by rw [parP,parR]; exact level_eqv (par_eqv n 5) (par_sfx n 5) _ _ l hl
 | n+1,5,l,hl=>by rw [parP,parR]; exact level_eqv (par_eqv n 6) (par_sfx n 6) _ _ l hl
 | n+1,6,l,hl=>by
   rw [parP,parR,rIs_good,rNext_good]
   split
   ·have e:isNum l.tail=true↔((-1:Int)<0∧(hdT l.tail).kd=2∧(hdT l.tail).n ≠ 0):=by
     have hk:=hl.tl
     revert hk
     cases l.tail with
     | nil=>intro _; simp [isNum,hdT]
     | cons t r =>
       intro hk
       have ht:=hk t List.mem_cons_self
       simp only [isNum,hdT,Bool.and_eq_true,beq_iff_eq,bne_iff_ne]
       constructor
       ·rintro ⟨h1,h2⟩
        exact ⟨by decide,h1,fun h=>h2 ((ht.num h1).1 h)⟩
       ·rintro ⟨_,h1,h2⟩
        exact ⟨h1,fun h=>h2 ((ht.num h1).2 h)⟩
    simp only
    by_cases hn:isNum l.tail=true
    ·rw [if_pos hn,if_pos (e.1 hn),rNext_good]
     rfl
    ·rw [if_neg hn,if_neg (fun h=>hn (e.2 h))]
     exact eqv2 (g:=fun x=>(mkT 11 [x.1],x.2)) (par_eqv n 6 _ hl.tl) (fun t l' _=>rfl) fun x _=>rfl
   ·exact par_eqv n 7 l hl
 | n+1,m+7,[],hl=>by
   rw [parP,parR]
   have e:∀ w,rIs w ([],-1)=false:=fun w=>rfl
   have e2:rNamed (([],-1):RS)=false:=rfl
   rw [if_neg (show ¬ (0:Int)≤(([],-1):RS).2 by simp)]
   simp only [hdT,e,e2]
   rw [if_neg (by decide),if_neg (by decide),if_neg (by decide),if_neg (by decide),if_neg (by decide),if_neg (by decide),if_neg (by decide),if_neg (by decide),if_neg (by decide)]
   unfold aggR
   rw [rOne_good,one_nil,rFail_good]
   rfl
 | n+1,m+7,t::r,hl=>by
   have ht:=hl t List.mem_cons_self
   have hr:okL r:=hl.sfx (List.suffix_cons _ _)
   rw [parP,parR,if_neg (show ¬ (0:Int)≤((t::r,-1):RS).2 by simp)]
   simp only [hdT,rNext_good,List.tail_cons]
   by_cases k2:t.kd=2
   ·rw [if_pos k2,if_pos k2]; rfl
   rw [if_neg k2,if_neg k2]
   by_cases k3:t.kd=3
   ·rw [if_pos k3,if_pos k3]; rfl
   rw [if_neg k3,if_neg k3,named_good ht]
   simp only [rIs_good]
   by_cases hn:(t.kd==1&&nameOk rsv t.rw)=true
   ·rw [if_pos hn]
    have hn':nameOk rsv (hdT (t::r)).rw=true:=by simp only [Bool.and_eq_true] at hn; exact hn.2
    have q:=fun w hw=>not_name (w:=w) hw hn'
    rw [if_neg (by rw [q wTrue (by decide)]; simp),if_neg (by rw [q wFalse (by decide)]; simp),if_neg (by rw [q wNull (by decide)]; simp),if_neg (by rw [q wOpen (by decide)]; simp),if_neg (by rw [q wLength (by decide)]; simp),if_neg (by rw [q wCoalesce (by decide)]; simp),if_neg (by rw [q wCase (by decide)]; simp)]
    have ha:oneOf aggW (t::r)=none:=by
     unfold oneOf aggW
     simp [List.findIdx?_cons,q wCount (by decide),q wSum (by decide),q wMin (by decide),q wMax (by decide)]
    rw [ha]
    refine name_eqv (g:=fun a=>if rIs wDot a.2=true then (.mk 40 0 0 (rName (rNext a.2)).1 a.1 [],(rName (rNext a.2)).2) else (.mk 40 0 0 a.1 [] [],a.2)) hl (fun a l1 h1=>?_) fun a ha=>?_
    ·have hl1:=hl.sfx (name_sfx _ _ _ h1)
     simp only [rIs_good,rNext_good]
     split
     ·exact name_eqv (g:=fun b=>(.mk 40 0 0 b.1 a [],b.2)) hl1.tl (fun b l2 _=>rfl) fun b _=>rfl
     ·rfl
    ·simp only [rIs_bad ha]
     rfl
   ·rw [if_neg hn]
    by_cases c1:isW wTrue (t::r)=true
    ·have c2:isW wOpen (t::r)=false:=by
      simp only [isW,Bool.and_eq_true,beq_iff_eq] at c1
      simp only [isW,c1.2]
      simp [wTrue,wOpen]
     rw [if_pos c1,if_neg (by rw [c2]; simp),if_pos c1]; rfl
    rw [if_neg c1,if_neg c1]
    by_cases c2:isW wFalse (t::r)=true
    ·have c3:isW wOpen (t::r)=false:=by
      simp only [isW,Bool.and_eq_true,beq_iff_eq] at c2
      simp only [isW,c2.2]
      simp [wFalse,wOpen]
     rw [if_pos c2,if_neg (by rw [c3]; simp),if_pos c2]; rfl
    rw [if_neg c2,if_neg c2]
    by_cases c3:isW wNull (t::r)=true
    ·have c4:isW wOpen (t::r)=false:=by
      simp only [isW,Bool.and_eq_true,beq_iff_eq] at c3
      simp only [isW,c3.2]
      simp [wNull,wOpen]
     rw [if_pos c3,if_neg (by rw [c4]; simp),if_pos c3]
     unfold nullR
     rw [rOne_good,rFail_good,rNext_good]
     cases oneOf [wInt,wBool,wText] r with
     | none=>rfl
     | some i=>rfl
    rw [if_neg c3,if_neg c3]
    by_cases c4:isW wOpen (t::r)=true
    ·rw [if_pos c4,if_pos c4]
     exact eqv2 (g:=fun x=>(x.1,rWant wShut x.2)) (par_eqv n 0 r hr) (fun t l2 _=>eqvE _) fun x hx=>want_bad2 _ hx
    rw [if_neg c4,if_neg c4]
    by_cases c5:isW wLength (t::r)=true
    ·rw [if_pos c5,if_pos c5]
     simp only [listS,restS,bind21,bind22,bind2_ok]
     exact eqvW (g:=fun s=>(mkT 13 [(parR n 0 s).1],rWant wShut (parR n 0 s).2)) (fun _=>eqv2 (g:=fun x=>(mkT 13 [x.1],rWant wShut x.2)) (par_eqv n 0 _ hr.tl) (fun t l2 _=>eqvE _) fun x hx=>want_bad2 _ hx) fun s hs=>by
      simp only [par_bad n 0 s hs]
      exact want_bad2 _ hs
    rw [if_neg c5,if_neg c5]
    by_cases c6:isW wCoalesce (t::r)=true
    ·rw [if_pos c6,if_pos c6]
     simp only [listS,restS,bind21,bind22,bind2_ok]
     have b4:∀ (t:Tm) (q:Tm×RS),0≤q.2.2→((fun b:Tm×RS=>(mkT 27 [t,b.1],rWant wShut b.2)) q).2.2=q.2.2:=fun t q hq=>want_bad2 _ hq
     have b3:∀ (t:Tm) (s:RS),0≤s.2→((fun s:RS=>(mkT 27 [t,(parR n 0 s).1],rWant wShut (parR n 0 s).2)) s).2.2=s.2:=fun t s hs=>by
      simp only [par_bad n 0 s hs]
      exact want_bad2 _ hs
     have b2:∀ q:Tm×RS,0≤q.2.2→((fun a:Tm×RS=>(mkT 27 [a.1,(parR n 0 (rWant wComma a.2)).1],rWant wShut (parR n 0 (rWant wComma a.2)).2)) q).2.2=q.2.2:=fun q hq=>by
      simp only [rWant_bad hq]
      exact b3 q.1 q.2 hq
     exact eqvW (g:=fun s=>(mkT 27 [(parR n 0 s).1,(parR n 0 (rWant wComma (parR n 0 s).2)).1],rWant wShut (parR n 0 (rWant wComma (parR n 0 s).2)).2))
      (fun _=>eqv2 (g:=fun a=>(mkT 27 [a.1,(parR n 0 (rWant wComma a.2)).1],rWant wShut (parR n 0 (rWant wComma a.2)).2)) (par_eqv n 0 _ hr.tl)
       (fun t l2 ht=>eqvW (g:=fun s=>(mkT 27 [t,(parR n 0 s).1],rWant wShut (parR n 0 s).2))
        (fun _=>eqv2 (g:=fun b=>(mkT 27 [t,b.1],rWant wShut b.2)) (par_eqv n 0 _ ((hr.tl.sfx (par_sfx n 0 _ t l2 ht)).tl)) (fun t' l4 _=>eqvE _) (b4 t)) (b3 t)) b2)
      fun s hs=>by
       simp only [par_bad n 0 s hs,rWant_bad hs]
    rw [if_neg c6,if_neg c6]
    by_cases c7:isW wCase (t::r)=true
    ·rw [if_pos c7,if_pos c7]
     simp only [caseS,bind21,bind22,bind2_ok]
     have b6:∀ (t u:Tm) (q:Tm×RS),0≤q.2.2→((fun c:Tm×RS=>(mkT 26 [t,u,c.1],rWant wEnd c.2)) q).2.2=q.2.2:=fun t u q hq=>want_bad2 _ hq
     have b5:∀ (t u:Tm) (s:RS),0≤s.2→((fun s:RS=>(mkT 26 [t,u,(parR n 0 s).1],rWant wEnd (parR n 0 s).2)) s).2.2=s.2:=fun t u s hs=>by
      simp only [par_bad n 0 s hs]
      exact want_bad2 _ hs
     have b4:∀ (t:Tm) (q:Tm×RS),0≤q.2.2→((fun b:Tm×RS=>(mkT 26 [t,b.1,(parR n 0 (rWant wElse b.2)).1],rWant wEnd (parR n 0 (rWant wElse b.2)).2)) q).2.2=q.2.2:=fun t q hq=>by
      simp only [rWant_bad hq]
      exact b5 t q.1 q.2 hq
     have b3:∀ (t:Tm) (s:RS),0≤s.2→((fun s:RS=>(mkT 26 [t,(parR n 0 s).1,(parR n 0 (rWant wElse (parR n 0 s).2)).1],rWant wEnd (parR n 0 (rWant wElse (parR n 0 s).2)).2)) s).2.2=s.2:=fun t s hs=>by
      simp only [par_bad n 0 s hs,rWant_bad hs]
     have b2:∀ q:Tm×RS,0≤q.2.2→((fun a:Tm×RS=>(mkT 26 [a.1,(parR n 0 (rWant wThen a.2)).1,(parR n 0 (rWant wElse (parR n 0 (rWant wThen a.2)).2)).1],rWant wEnd (parR n 0 (rWant wElse (parR n 0 (rWant wThen a.2)).2)).2)) q).2.2=q.2.2:=fun q hq=>by
      simp only [rWant_bad hq]
      exact b3 q.1 q.2 hq
     exact eqvW (g:=fun s=>(mkT 26 [(parR n 0 s).1,(parR n 0 (rWant wThen (parR n 0 s).2)).1,(parR n 0 (rWant wElse (parR n 0 (rWant wThen (parR n 0 s).2)).2)).1],rWant wEnd (parR n 0 (rWant wElse (parR n 0 (rWant wThen (parR n 0 s).2)).2)).2))
      (fun _=>eqv2 (g:=fun a=>(mkT 26 [a.1,(parR n 0 (rWant wThen a.2)).1,(parR n 0 (rWant wElse (parR n 0 (rWant wThen a.2)).2)).1],rWant wEnd (parR n 0 (rWant wElse (parR n 0 (rWant wThen a.2)).2)).2)) (par_eqv n 0 _ hr.tl)
       (fun t l2 ht=>eqvW (g:=fun s=>(mkT 26 [t,(parR n 0 s).1,(parR n 0 (rWant wElse (parR n 0 s).2)).1],rWant wEnd (parR n 0 (rWant wElse (parR n 0 s).2)).2))
        (fun _=>eqv2 (g:=fun b=>(mkT 26 [t,b.1,(parR n 0 (rWant wElse b.2)).1],rWant wEnd (parR n 0 (rWant wElse b.2)).2)) (par_eqv n 0 _ ((hr.tl.sfx (par_sfx n 0 _ t l2 ht)).tl))
         (fun u l4 hu=>eqvW (g:=fun s=>(mkT 26 [t,u,(parR n 0 s).1],rWant wEnd (parR n 0 s).2))
          (fun _=>eqv2 (g:=fun c=>(mkT 26 [t,u,c.1],rWant wEnd c.2)) (par_eqv n 0 _ (((((hr.tl.sfx (par_sfx n 0 _ t l2 ht)).tl).sfx (par_sfx n 0 _ u l4 hu))).tl)) (fun v l6 _=>eqvE _) (b6 t u)) (b5 t u)) (b4 t)) (b3 t)) b2)
      fun s hs=>by
       simp only [par_bad n 0 s hs,rWant_bad hs]
    rw [if_neg c7,if_neg c7]
    cases hi:oneOf aggW (t::r) with
    | some i=>exact agg_eqv (par_eqv n 0) (t::r) hl i hi (par_bad n 0)
    | none =>
      have e:nameS (t::r)=.error t.fr:=by
       unfold nameS
       simp only
       rw [if_neg (by simpa using hn)]
      rw [e]
      unfold aggR
      rw [rOne_good,hi,rFail_good]
      rfl
end Go.Proofs.Tryz
