import Derived.Test.YthpmjipkofbeiaaGreatDoorUSqyRow
set_option linter.all false
namespace Go.Proofs.Tryz
open Go.Ab
set_option maxRecDepth 100000
set_option maxHeartbeats 8000000
def okE (l:List Tk):Prop:=∃ r t,l=r++[t]∧t.ends=true
theorem okE.ne {l:List Tk} (h:okE l):l ≠ []:=by
 obtain ⟨r,t,rfl,_⟩:=h
 simp
theorem okE.cons {t:Tk} {l:List Tk} (h:okE (t::l)) (ht:t.ends=false):okE l:=by
 obtain ⟨r,e,h1,h2⟩:=h
 cases r with
 | nil =>
   simp only [List.nil_append,List.cons.injEq] at h1
   obtain ⟨rfl,_⟩:=h1
   rw [h2] at ht; cases ht
 | cons a r =>
   simp only [List.cons_append,List.cons.injEq] at h1
   exact ⟨r,e,h1.2,h2⟩
theorem iS {t:Tk} (h0:t.kd ≠ 0) (h5:t.kd ≠ 5):t.ends=false:=by
 unfold Tk.ends
 simp [h0,h5]
theorem okE.tl {w:List UInt8} {l:List Tk} (h:okE l) (hw:isW w l=true):okE l.tail:=by
 cases l with
 | nil=>cases hw
 | cons t r =>
   refine h.cons ?_
   unfold isW at hw
   simp only [Bool.and_eq_true,Bool.or_eq_true,beq_iff_eq] at hw
   rcases hw.1 with e | e <;> exact iS (by rw [e]; decide) (by rw [e]; decide)
theorem aJO {ws:List (List UInt8)} {l:List Tk} {i:Nat} (h:bN ws l=some i):∃ w,isW w l=true:=by
 unfold bN at h
 obtain ⟨h1,h2,_⟩:=List.findIdx?_eq_some_iff_getElem.1 h
 exact ⟨_,h2⟩
theorem okE.tl1 {ws:List (List UInt8)} {l:List Tk} {i:Nat} (h:okE l) (ho:bN ws l=some i):okE l.tail:=by
 obtain ⟨w,hw⟩:=aJO ho
 exact h.tl hw
section
variable {f:Tk→Tk} {g:Nat→Nat} (hf:∀ t,(f t).kd=t.kd∧(f t).rw=t.rw∧(f t).tx=t.tx∧(f t).n=t.n∧(f t).fr=g t.fr)
include hf
theorem fE (w:List UInt8) (l:List Tk):isW w (l.map f)=isW w l:=by
 cases l with
 | nil=>rfl
 | cons t r =>
   obtain ⟨h1,h2,_⟩:=hf t
   show (((f t).kd==1||(f t).kd==4)&&(f t).rw==w)=_
   rw [h1,h2]
   rfl
theorem wN (ws:List (List UInt8)) (l:List Tk):bN ws (l.map f)=bN ws l:=by
 unfold bN
 congr 1
 funext w
 exact fE hf w l
theorem FK {l:List Tk} (h:okE l):lN (l.map f)=g (lN l):=by
 cases l with
 | nil=>exact absurd rfl h.ne
 | cons t r=>exact (hf t).2.2.2.2
theorem aDo (l:List Tk):oM (l.map f)=oM l:=by
 cases l with
 | nil=>rfl
 | cons t r =>
   obtain ⟨h1,h2,_⟩:=hf t
   show ((f t).kd==2&&(f t).rw != [48])=_
   rw [h1,h2]
   rfl
theorem aHY (l:List Tk):(eU (l.map f)).n=(eU l).n:=by
 cases l with
 | nil=>rfl
 | cons t r=>exact (hf t).2.2.2.1
end
def Sim {α:Type} (f:Tk→Tk) (g:Nat→Nat) (r r':cY α):Prop:=match r with
 | .ok (x,m)=>okE m∧r'=.ok (x,m.map f)
 | .error p=>r'=.error (g p)
section
variable {f:Tk→Tk} {g:Nat→Nat}
theorem Sim.ok {α:Type} {x:α} {m:List Tk} (h:okE m):Sim f g (.ok (x,m)) (.ok (x,m.map f)):=⟨h,rfl⟩
theorem iD {α β:Type} {r r':cY α} {k k':α→List Tk→cY β} (h:Sim f g r r') (hk:∀ x m,okE m→Sim f g (k x m) (k' x (m.map f))):Sim f g (aR r k) (aR r' k'):=by
 cases r with
 | error p =>
   have h':r'=.error (g p):=h
   rw [h']
   exact rfl
 | ok y =>
   obtain ⟨x,m⟩:=y
   obtain ⟨h1,h2⟩:okE m∧r'=.ok (x,m.map f):=h
   rw [h2]
   exact hk x m h1
variable (hf:∀ t,(f t).kd=t.kd∧(f t).rw=t.rw∧(f t).tx=t.tx∧(f t).n=t.n∧(f t).fr=g t.fr)
include hf
theorem rQ {β:Type} {k k':List Tk→cY β}:∀ (ws:List (List UInt8)) {l:List Tk},okE l→(∀ m,okE m→Sim f g (k m) (k' (m.map f)))→Sim f g (cR (cQ ws l) k) (cR (cQ ws (l.map f)) k')
 | [],l,h,hk=>hk l h
 | w::ws,l,h,hk=>by
   rw [cQ,cQ,fE hf]
   split
   ·rename_i hw
    rw [← List.map_tail]
    exact rQ ws (h.tl hw) hk
   ·show Except.error (lN (l.map f))=_
    rw [FK hf h]
theorem sJ {p p':List Tk→cY Tm} (hp:∀ l,okE l→Sim f g (p l) (p' (l.map f))) (sg:List (List UInt8)) (ops:List Int):∀ (k:Nat) (out:Tm) (l:List Tk),okE l→Sim f g (cW p sg ops k out l) (cW p' sg ops k out (l.map f))
 | 0,out,l,h=>.ok h
 | k+1,out,l,h=>by
   rw [cW,cW,wN hf]
   cases ho:bN sg l with
   | none=>exact .ok h
   | some i =>
     simp only
     rw [← List.map_tail]
     have e:=hp _ (h.tl1 ho)
     cases hr:p l.tail with
     | error q =>
       rw [hr] at e
       have e':p' (l.tail.map f)=.error (g q):=e
       rw [e']
       exact rfl
     | ok y =>
       obtain ⟨t,m⟩:=y
       rw [hr] at e
       obtain ⟨e1,e2⟩:okE m∧p' (l.tail.map f)=.ok (t,m.map f):=e
       rw [e2]
       exact sJ hp sg ops k _ m e1
theorem IH {p p':List Tk→cY Tm} (hp:∀ l,okE l→Sim f g (p l) (p' (l.map f))):∀ (k:Nat) (ks:List Tm) (l:List Tk),okE l→Sim f g (fA p k ks l) (fA p' k ks (l.map f))
 | 0,ks,l,h=>.ok h
 | k+1,ks,l,h=>by
   rw [fA,fA,fE hf]
   split
   ·rename_i hw
    rw [← List.map_tail]
    exact iD (hp _ (h.tl hw)) fun t m hm=>IH hp k _ m hm
   ·exact .ok h
theorem UK {p p':List Tk→cY Tm} (hp:∀ l,okE l→Sim f g (p l) (p' (l.map f))):∀ (k:Nat) (ks:List Tm) (l:List Tk),okE l→Sim f g (kV p k ks l) (kV p' k ks (l.map f))
 | 0,ks,l,h=>.ok h
 | k+1,ks,l,h=>by
   rw [kV,kV]
   exact rQ hf _ h fun m hm=>iD (hp m hm) fun t m2 h2=>UK hp k _ m2 h2
theorem UL {p p':List Tk→cY Tm} (hp:∀ l,okE l→Sim f g (p l) (p' (l.map f))) (k:Nat) {l:List Tk} (h:okE l):Sim f g (kG p k l) (kG p' k (l.map f)) :=
 rQ hf _ h fun m hm=>iD (hp m hm) fun t m2 h2=>iD (UK hf hp k [t] m2 h2) fun ks m3 h3=>rQ hf _ h3 fun m4 h4=>.ok h4
theorem UM {p p':List Tk→cY Tm} (hp:∀ l,okE l→Sim f g (p l) (p' (l.map f))):∀ (ws:List (List UInt8)) (ks:List Tm) (l:List Tk),okE l→Sim f g (jP p ws ks l) (jP p' ws ks (l.map f))
 | [],ks,l,h=>.ok h
 | w::ws,ks,l,h=>by
   rw [jP,jP]
   exact rQ hf _ h fun m hm=>iD (hp m hm) fun t m2 h2=>UM hp ws _ m2 h2
theorem vH {l:List Tk} (h:okE l):Sim f g (gJ l) (gJ (l.map f)):=by
 cases l with
 | nil=>exact absurd rfl h.ne
 | cons t r =>
   obtain ⟨h1,h2,_,_,h5⟩:=hf t
   show Sim f g (if t.kd=1∧bP jZ t.rw=true then .ok (t.rw,r) else .error t.fr) (if (f t).kd=1∧bP jZ (f t).rw=true then .ok ((f t).rw,r.map f) else .error (f t).fr)
   rw [h1,h2,h5]
   split
   ·rename_i hk
    exact .ok (h.cons (iS (by rw [hk.1]; decide) (by rw [hk.1]; decide)))
   ·exact rfl
theorem aHZ {p p':List Tk→cY Tm} (hp:∀ l,okE l→Sim f g (p l) (p' (l.map f))) (i:Nat) {l:List Tk} (h:okE l):Sim f g (oA p i l) (oA p' i (l.map f)):=by
 unfold oA
 refine rQ hf _ h fun m hm=>?_
 rw [fE hf,fE hf]
 split
 ·rename_i hw
  rw [← List.map_tail]
  exact rQ hf _ (hm.tl hw.2) fun m2 h2=>.ok h2
 ·split
  ·rename_i hw
   rw [← List.map_tail]
   exact iD (hp _ (hm.tl hw.2)) fun t m2 h2=>rQ hf _ h2 fun m3 h3=>.ok h3
  ·exact iD (hp _ hm) fun t m2 h2=>rQ hf _ h2 fun m3 h3=>.ok h3
theorem eQ:∀ (n lvl:Nat) (l:List Tk),okE l→Sim f g (bA n lvl l) (bA n lvl (l.map f))
 | 0,lvl,l,h=>by
   rw [bA,bA,FK hf h]
   exact rfl
 | n+1,0,l,h=>by rw [bA,bA]; exact iD (eQ n 1 l h) fun t m hm=>by rw [List.length_map]; exact sJ hf (eQ n 1) _ _ _ t m hm
 | n+1,1,l,h=>by rw [bA,bA]; exact iD (eQ n 2 l h) fun t m hm=>by rw [List.length_map]; exact sJ hf (eQ n 2) _ _ _ t m hm
 | n+1,2,l,h=>by
   rw [bA,bA,fE hf]
   split
   ·rename_i hw
    rw [← List.map_tail]
    exact iD (eQ n 2 _ (h.tl hw)) fun t m hm=>.ok hm
   ·exact eQ n 3 l h
 | n+1,3,l,h=>by
   rw [bA,bA]
   refine iD (eQ n 4 l h) fun a m hm=>?_
   rw [wN hf]
   cases ho:bN cmpW m with
   | some i =>
     simp only
     rw [← List.map_tail]
     exact iD (eQ n 4 _ (hm.tl1 ho)) fun t m2 h2=>.ok h2
   | none =>
     simp only
     rw [fE hf,fE hf wIn,← List.map_tail]
     split
     ·rename_i hw
      have h1:=hm.tl hw
      rw [fE hf,fE hf,← List.map_tail]
      split
      ·rename_i hw2
       exact .ok (h1.tl hw2)
      ·split
       ·rename_i hw2
        exact .ok (h1.tl hw2)
       ·exact rQ hf _ h1 fun m2 h2=>.ok h2
     ·split
      ·rename_i hw
       exact rQ hf _ (hm.tl hw) fun m2 h2=>iD (eQ n 0 m2 h2) fun b m3 h3=>by
        rw [List.length_map]
        exact iD (IH hf (eQ n 0) _ _ m3 h3) fun ks m4 h4=>rQ hf _ h4 fun m5 h5=>.ok h5
      ·exact .ok hm
 | n+1,4,l,h=>by rw [bA,bA]; exact iD (eQ n 5 l h) fun t m hm=>by rw [List.length_map]; exact sJ hf (eQ n 5) _ _ _ t m hm
 | n+1,5,l,h=>by rw [bA,bA]; exact iD (eQ n 6 l h) fun t m hm=>by rw [List.length_map]; exact sJ hf (eQ n 6) _ _ _ t m hm
 | n+1,6,l,h=>by
   rw [bA,bA,fE hf]
   split
   ·rename_i hw
    have h1:=h.tl hw
    rw [← List.map_tail,aDo hf,aHY hf]
    split
    ·rename_i hn
     rw [← List.map_tail]
     refine .ok ?_
     cases hl:l.tail with
     | nil=>rw [hl] at hn; cases hn
     | cons t r =>
       rw [hl] at hn h1
       unfold oM at hn
       simp only [Bool.and_eq_true,beq_iff_eq] at hn
       exact h1.cons (iS (by rw [hn.1]; decide) (by rw [hn.1]; decide))
    ·exact iD (eQ n 6 _ h1) fun t m hm=>.ok hm
   ·exact eQ n 7 l h
 | n+1,m+7,[],h=>absurd rfl h.ne
 | n+1,m+7,t::r,h=>by
   obtain ⟨h1,h2,h3,h4,h5⟩:=hf t
   have hw:=fun w=>fE hf w (t::r)
   have hone:=wN hf aggW (t::r)
   have hnm:=vH hf h
   rw [List.map_cons] at hw hone hnm
   rw [List.map_cons,bA,bA]
   rw [hw wTrue,hw wFalse,hw wNull,hw bF,hw wLength,hw wCoalesce,hw wCase,hone,h1,h3,h4]
   by_cases hk:t.kd=2
   ·rw [if_pos hk,if_pos hk]
    exact .ok (h.cons (iS (by rw [hk]; decide) (by rw [hk]; decide)))
   rw [if_neg hk,if_neg hk]
   clear hk
   by_cases hk:t.kd=3
   ·rw [if_pos hk,if_pos hk]
    exact .ok (h.cons (iS (by rw [hk]; decide) (by rw [hk]; decide)))
   rw [if_neg hk,if_neg hk]
   clear hk
   by_cases hk:isW wTrue (t::r)=true
   ·rw [if_pos hk,if_pos hk]
    exact .ok (h.tl hk)
   rw [if_neg hk,if_neg hk]
   clear hk
   by_cases hk:isW wFalse (t::r)=true
   ·rw [if_pos hk,if_pos hk]
    exact .ok (h.tl hk)
   rw [if_neg hk,if_neg hk]
   clear hk
   by_cases hk:isW wNull (t::r)=true
   ·rw [if_pos hk,if_pos hk]
    have hr:okE r:=h.tl hk
    rw [wN hf]
    cases ho:bN [EQ,uD,uE] r with
    | some i =>
      simp only
      rw [← List.map_tail]
      exact .ok (hr.tl1 ho)
    | none =>
      show Except.error (lN (r.map f))=_
      rw [FK hf hr]
   rw [if_neg hk,if_neg hk]
   clear hk
   by_cases hk:isW bF (t::r)=true
   ·rw [if_pos hk,if_pos hk]
    exact iD (eQ n 0 r (h.tl hk)) fun t m2 h2=>rQ hf _ h2 fun m3 h3=>.ok h3
   rw [if_neg hk,if_neg hk]
   clear hk
   by_cases hk:isW wLength (t::r)=true
   ·rw [if_pos hk,if_pos hk]
    exact iD (UL hf (eQ n 0) 0 (h.tl hk)) fun t m2 h2=>.ok h2
   rw [if_neg hk,if_neg hk]
   clear hk
   by_cases hk:isW wCoalesce (t::r)=true
   ·rw [if_pos hk,if_pos hk]
    exact iD (UL hf (eQ n 0) 1 (h.tl hk)) fun t m2 h2=>.ok h2
   rw [if_neg hk,if_neg hk]
   clear hk
   by_cases hk:isW wCase (t::r)=true
   ·rw [if_pos hk,if_pos hk]
    exact iD (UM hf (eQ n 0) _ _ r (h.tl hk)) fun t m2 h2=>rQ hf _ h2 fun m3 h3=>.ok h3
   rw [if_neg hk,if_neg hk]
   clear hk
   cases ho:bN aggW (t::r) with
   | some i=>exact aHZ hf (eQ n 0) i (h.tl1 ho)
   | none =>
     refine iD hnm fun a m2 h2=>?_
     rw [fE hf]
     split
     ·rename_i hk
      rw [← List.map_tail]
      exact iD (vH hf (h2.tl hk)) fun b m3 h3=>.ok h3
     ·exact .ok h2
end
end Go.Proofs.Tryz
