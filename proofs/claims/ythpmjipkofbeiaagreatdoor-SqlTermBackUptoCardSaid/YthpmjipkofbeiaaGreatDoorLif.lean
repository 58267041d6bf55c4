import Derived.Test.YthpmjipkofbeiaaGreatDoorTPru
set_option linter.all false
namespace Go.Proofs.Tryz
open Go.Ab
set_option maxRecDepth 100000
set_option maxHeartbeats 8000000
def okE (l:List Tk):Prop:=∃ r t,l=r++[t]∧t.ends=true
theorem okE.ne {l:List Tk} (h:okE l):l ≠ []:=by
 obtain ⟨r,t,rfl,_⟩:=h
 simp
theorem okE.cons {t:Tk} {l:List Tk} (h:okE (t::l)) (ht:t.ends=false):okE l:=by
 obtain ⟨r,e,h1,h2⟩:=h
 cases r with
 | nil =>
   simp only [List.nil_append,List.cons.injEq] at h1
   obtain ⟨rfl,_⟩:=h1
   rw [h2] at ht; cases ht
 | cons a r =>
   simp only [List.cons_append,List.cons.injEq] at h1
   exact ⟨r,e,h1.2,h2⟩
theorem ends_kd {t:Tk} (h0:t.kd ≠ 0) (h5:t.kd ≠ 5):t.ends=false:=by
 unfold Tk.ends
 simp [h0,h5]
theorem okE.tl {w:List UInt8} {l:List Tk} (h:okE l) (hw:isW w l=true):okE l.tail:=by
 cases l with
 | nil=>cases hw
 | cons t r =>
   refine h.cons ?_
   unfold isW at hw
   simp only [Bool.and_eq_true,Bool.or_eq_true,beq_iff_eq] at hw
   rcases hw.1 with e | e <;> exact ends_kd (by rw [e]; decide) (by rw [e]; decide)
theorem one_w {ws:List (List UInt8)} {l:List Tk} {i:Nat} (h:oneOf ws l=some i):∃ w,isW w l=true:=by
 unfold oneOf at h
 obtain ⟨h1,h2,_⟩:=List.findIdx?_eq_some_iff_getElem.1 h
 exact ⟨_,h2⟩
theorem okE.tl1 {ws:List (List UInt8)} {l:List Tk} {i:Nat} (h:okE l) (ho:oneOf ws l=some i):okE l.tail:=by
 obtain ⟨w,hw⟩:=one_w ho
 exact h.tl hw
section
variable {f:Tk→Tk} {g:Nat→Nat} (hf:∀ t,(f t).kd=t.kd∧(f t).rw=t.rw∧(f t).tx=t.tx∧(f t).n=t.n∧(f t).fr=g t.fr)
include hf
theorem isW_map (w:List UInt8) (l:List Tk):isW w (l.map f)=isW w l:=by
 cases l with
 | nil=>rfl
 | cons t r =>
   obtain ⟨h1,h2,_⟩:=hf t
   show (((f t).kd==1||(f t).kd==4)&&(f t).rw==w)=_
   rw [h1,h2]
   rfl
theorem one_map (ws:List (List UInt8)) (l:List Tk):oneOf ws (l.map f)=oneOf ws l:=by
 unfold oneOf
 congr 1
 funext w
 exact isW_map hf w l
theorem pos_map {l:List Tk} (h:okE l):posT (l.map f)=g (posT l):=by
 cases l with
 | nil=>exact absurd rfl h.ne
 | cons t r=>exact (hf t).2.2.2.2
theorem isNum_map (l:List Tk):isNum (l.map f)=isNum l:=by
 cases l with
 | nil=>rfl
 | cons t r =>
   obtain ⟨h1,h2,_⟩:=hf t
   show ((f t).kd==2&&(f t).rw != [48])=_
   rw [h1,h2]
   rfl
theorem hdn_map (l:List Tk):(hdT (l.map f)).n=(hdT l).n:=by
 cases l with
 | nil=>rfl
 | cons t r=>exact (hf t).2.2.2.1
end
def Sim {α:Type} (f:Tk→Tk) (g:Nat→Nat) (r r':Res α):Prop:=match r with
 | .ok (x,m)=>okE m∧r'=.ok (x,m.map f)
 | .error p=>r'=.error (g p)
section
variable {f:Tk→Tk} {g:Nat→Nat}
theorem Sim.ok {α:Type} {x:α} {m:List Tk} (h:okE m):Sim f g (.ok (x,m)) (.ok (x,m.map f)):=⟨h,rfl⟩
theorem sim2 {α β:Type} {r r':Res α} {k k':α→List Tk→Res β} (h:Sim f g r r') (hk:∀ x m,okE m→Sim f g (k x m) (k' x (m.map f))):Sim f g (bind2 r k) (bind2 r' k'):=by
 cases r with
 | error p =>
   have h':r'=.error (g p):=h
   rw [h']
   exact rfl
 | ok y =>
   obtain ⟨x,m⟩:=y
   obtain ⟨h1,h2⟩:okE m∧r'=.ok (x,m.map f):=h
   rw [h2]
   exact hk x m h1
variable (hf:∀ t,(f t).kd=t.kd∧(f t).rw=t.rw∧(f t).tx=t.tx∧(f t).n=t.n∧(f t).fr=g t.fr)
include hf
theorem sim1 {β:Type} {k k':List Tk→Res β}:∀ (ws:List (List UInt8)) {l:List Tk},okE l→(∀ m,okE m→Sim f g (k m) (k' (m.map f)))→Sim f g (bind1 (expS ws l) k) (bind1 (expS ws (l.map f)) k')
 | [],l,h,hk=>hk l h
 | w::ws,l,h,hk=>by
   rw [expS,expS,isW_map hf]
   split
   ·rename_i hw
    rw [← List.map_tail]
    exact sim1 ws (h.tl hw) hk
   ·show Except.error (posT (l.map f))=_
    rw [pos_map hf h]
theorem sim_chain {p p':List Tk→Res Tm} (hp:∀ l,okE l→Sim f g (p l) (p' (l.map f))) (sg:List (List UInt8)) (ops:List Int):∀ (k:Nat) (out:Tm) (l:List Tk),okE l→Sim f g (chainS p sg ops k out l) (chainS p' sg ops k out (l.map f))
 | 0,out,l,h=>.ok h
 | k+1,out,l,h=>by
   rw [chainS,chainS,one_map hf]
   cases ho:oneOf sg l with
   | none=>exact .ok h
   | some i =>
     simp only
     rw [← List.map_tail]
     have e:=hp _ (h.tl1 ho)
     cases hr:p l.tail with
     | error q =>
       rw [hr] at e
       have e':p' (l.tail.map f)=.error (g q):=e
       rw [e']
       exact rfl
     | ok y =>
       obtain ⟨t,m⟩:=y
       rw [hr] at e
       obtain ⟨e1,e2⟩:okE m∧p' (l.tail.map f)=.ok (t,m.map f):=e
       rw [e2]
       exact sim_chain hp sg ops k _ m e1
theorem sim_more {p p':List Tk→Res Tm} (hp:∀ l,okE l→Sim f g (p l) (p' (l.map f))):∀ (k:Nat) (ks:List Tm) (l:List Tk),okE l→Sim f g (moreS p k ks l) (moreS p' k ks (l.map f))
 | 0,ks,l,h=>.ok h
 | k+1,ks,l,h=>by
   rw [moreS,moreS,isW_map hf]
   split
   ·rename_i hw
    rw [← List.map_tail]
    exact sim2 (hp _ (h.tl hw)) fun t m hm=>sim_more hp k _ m hm
   ·exact .ok h
theorem sim_rest {p p':List Tk→Res Tm} (hp:∀ l,okE l→Sim f g (p l) (p' (l.map f))):∀ (k:Nat) (ks:List Tm) (l:List Tk),okE l→Sim f g (restS p k ks l) (restS p' k ks (l.map f))
 | 0,ks,l,h=>.ok h
 | k+1,ks,l,h=>by
   rw [restS,restS]
   exact sim1 hf _ h fun m hm=>sim2 (hp m hm) fun t m2 h2=>sim_rest hp k _ m2 h2
theorem sim_list {p p':List Tk→Res Tm} (hp:∀ l,okE l→Sim f g (p l) (p' (l.map f))) (k:Nat) {l:List Tk} (h:okE l):Sim f g (listS p k l) (listS p' k (l.map f)) :=
 sim1 hf _ h fun m hm=>sim2 (hp m hm) fun t m2 h2=>sim2 (sim_rest hf hp k [t] m2 h2) fun ks m3 h3=>sim1 hf _ h3 fun m4 h4=>.ok h4
theorem sim_case {p p':List Tk→Res Tm} (hp:∀ l,okE l→Sim f g (p l) (p' (l.map f))):∀ (ws:List (List UInt8)) (ks:List Tm) (l:List Tk),okE l→Sim f g (caseS p ws ks l) (caseS p' ws ks (l.map f))
 | [],ks,l,h=>.ok h
 | w::ws,ks,l,h=>by
   rw [caseS,caseS]
   exact sim1 hf _ h fun m hm=>sim2 (hp m hm) fun t m2 h2=>sim_case hp ws _ m2 h2
theorem sim_name {l:List Tk} (h:okE l):Sim f g (nameS l) (nameS (l.map f)):=by
 cases l with
 | nil=>exact absurd rfl h.ne
 | cons t r =>
   obtain ⟨h1,h2,_,_,h5⟩:=hf t
   show Sim f g (if t.kd=1∧nameOk rsv t.rw=true then .ok (t.rw,r) else .error t.fr) (if (f t).kd=1∧nameOk rsv (f t).rw=true then .ok ((f t).rw,r.map f) else .error (f t).fr)
   rw [h1,h2,h5]
   split
   ·rename_i hk
    exact .ok (h.cons (ends_kd (by rw [hk.1]; decide) (by rw [hk.1]; decide)))
   ·exact rfl
theorem sim_agg {p p':List Tk→Res Tm} (hp:∀ l,okE l→Sim f g (p l) (p' (l.map f))) (i:Nat) {l:List Tk} (h:okE l):Sim f g (aggS p i l) (aggS p' i (l.map f)):=by
 unfold aggS
 refine sim1 hf _ h fun m hm=>?_
 rw [isW_map hf,isW_map hf]
 split
 ·rename_i hw
  rw [← List.map_tail]
  exact sim1 hf _ (hm.tl hw.2) fun m2 h2=>.ok h2
 ·split
  ·rename_i hw
   rw [← List.map_tail]
   exact sim2 (hp _ (hm.tl hw.2)) fun t m2 h2=>sim1 hf _ h2 fun m3 h3=>.ok h3
  ·exact sim2 (hp _ hm) fun t m2 h2=>sim1 hf _ h2 fun m3 h3=>.ok h3
theorem par_sim:∀ (n lvl:Nat) (l:List Tk),okE l→Sim f g (parP n lvl l) (parP n lvl (l.map f))
 | 0,lvl,l,h=>by
   rw [parP,parP,pos_map hf h]
   exact rfl
 | n+1,0,l,h=>by rw [parP,parP]; exact sim2 (par_sim n 1 l h) fun t m hm=>by rw [List.length_map]; exact sim_chain hf (par_sim n 1) _ _ _ t m hm
 | n+1,1,l,h=>by rw [parP,parP]; exact sim2 (par_sim n 2 l h) fun t m hm=>by rw [List.length_map]; exact sim_chain hf (par_sim n 2) _ _ _ t m hm
 | n+1,2,l,h=>by
   rw [parP,parP,isW_map hf]
   split
   ·rename_i hw
    rw [← List.map_tail]
    exact sim2 (par_sim n 2 _ (h.tl hw)) fun t m hm=>.ok hm
   ·exact par_sim n 3 l h
 | n+1,3,l,h=>by
   rw [parP,parP]
   refine sim2 (par_sim n 4 l h) fun a m hm=>?_
   rw [one_map hf]
   cases ho:oneOf cmpW m with
   | some i =>
     simp only
     rw [← List.map_tail]
     exact sim2 (par_sim n 4 _ (hm.tl1 ho)) fun t m2 h2=>.ok h2
   | none =>
     simp only
     rw [isW_map hf,isW_map hf wIn,← List.map_tail]
     split
     ·rename_i hw
      have h1:=hm.tl hw
      rw [isW_map hf,isW_map hf,← List.map_tail]
      split
      ·rename_i hw2
       exact .ok (h1.tl hw2)
      ·split
       ·rename_i hw2
        exact .ok (h1.tl hw2)
       ·exact sim1 hf _ h1 fun m2 h2=>.ok h2
     ·split
      ·rename_i hw
       exact sim1 hf _ (hm.tl hw) fun m2 h2=>sim2 (par_sim n 0 m2 h2) fun b m3 h3=>by
        rw [List.length_map]
        exact sim2 (sim_more hf (par_sim n 0) _ _ m3 h3) fun ks m4 h4=>sim1 hf _ h4 fun m5 h5=>.ok h5
      ·exact .ok hm
 | n+1,4,l,h=>by rw [parP,parP]; exact sim2 (par_sim n 5 l h) fun t m hm=>by rw [List.length_map]; exact sim_chain hf (par_sim n 5) _ _ _ t m hm
 | n+1,5,l,h=>by rw [parP,parP]; exact sim2 (par_sim n 6 l h) fun t m hm=>by rw [List.length_map]; exact sim_chain hf (par_sim n 6) _ _ _ t m hm
 | n+1,6,l,h=>by
   rw [parP,parP,isW_map hf]
   split
   ·rename_i hw
    have h1:=h.tl hw
    rw [← List.map_tail,isNum_map hf,hdn_map hf]
    split
    ·rename_i hn
     rw [← List.map_tail]
     refine .ok ?_
     cases hl:l.tail with
     | nil=>rw [hl] at hn; cases hn
     | cons t r =>
       rw [hl] at hn h1
       unfold isNum at hn
       simp only [Bool.and_eq_true,beq_iff_eq] at hn
       exact h1.cons (ends_kd (by rw [hn.1]; decide) (by rw [hn.1]; decide))
    ·exact sim2 (par_sim n 6 _ h1) fun t m hm=>.ok hm
   ·exact par_sim n 7 l h
 | n+1,m+7,[],h=>absurd rfl h.ne
 | n+1,m+7,t::r,h=>by
   obtain ⟨h1,h2,h3,h4,h5⟩:=hf t
   have hw:=fun w=>isW_map hf w (t::r)
   have hone:=one_map hf aggW (t::r)
   have hnm:=sim_name hf h
   rw [List.map_cons] at hw hone hnm
   rw [List.map_cons,parP,parP]
   rw [hw wTrue,hw wFalse,hw wNull,hw wOpen,hw wLength,hw wCoalesce,hw wCase,hone,h1,h3,h4]
   by_cases hk:t.kd=2
   ·rw [if_pos hk,if_pos hk]
    exact .ok (h.cons (ends_kd (by rw [hk]; decide) (by rw [hk]; decide)))
   rw [if_neg hk,if_neg hk]
   clear hk
   by_cases hk:t.kd=3
   ·rw [if_pos hk,if_pos hk]
    exact .ok (h.cons (ends_kd (by rw [hk]; decide) (by rw [hk]; decide)))
   rw [if_neg hk,if_neg hk]
   clear hk
   by_cases hk:isW wTrue (t::r)=true
   ·rw [if_pos hk,if_pos hk]
    exact .ok (h.tl hk)
   rw [if_neg hk,if_neg hk]
   clear hk
   by_cases hk:isW wFalse (t::r)=true
   ·rw [if_pos hk,if_pos hk]
    exact .ok (h.tl hk)
   rw [if_neg hk,if_neg hk]
   clear hk
   by_cases hk:isW wNull (t::r)=true
   ·rw [if_pos hk,if_pos hk]
    have hr:okE r:=h.tl hk
    rw [one_map hf]
    cases ho:oneOf [wInt,wBool,wText] r with
    | some i =>
      simp only
      rw [← List.map_tail]
      exact .ok (hr.tl1 ho)
    | none =>
      show Except.error (posT (r.map f))=_
      rw [pos_map hf hr]
   rw [if_neg hk,if_neg hk]
   clear hk
   by_cases hk:isW wOpen (t::r)=true
   ·rw [if_pos hk,if_pos hk]
    exact sim2 (par_sim n 0 r (h.tl hk)) fun t m2 h2=>sim1 hf _ h2 fun m3 h3=>.ok h3
   rw [if_neg hk,if_neg hk]
   clear hk
   by_cases hk:isW wLength (t::r)=true
   ·rw [if_pos hk,if_pos hk]
    exact sim2 (sim_list hf (par_sim n 0) 0 (h.tl hk)) fun t m2 h2=>.ok h2
   rw [if_neg hk,if_neg hk]
   clear hk
   by_cases hk:isW wCoalesce (t::r)=true
   ·rw [if_pos hk,if_pos hk]
    exact sim2 (sim_list hf (par_sim n 0) 1 (h.tl hk)) fun t m2 h2=>.ok h2
   rw [if_neg hk,if_neg hk]
   clear hk
   by_cases hk:isW wCase (t::r)=true
   ·rw [if_pos hk,if_pos hk]
    exact sim2 (sim_case hf (par_sim n 0) _ _ r (h.tl hk)) fun t m2 h2=>sim1 hf _ h2 fun m3 h3=>.ok h3
   rw [if_neg hk,if_neg hk]
   clear hk
   cases ho:oneOf aggW (t::r) with
   | some i=>exact sim_agg hf (par_sim n 0) i (h.tl1 ho)
   | none =>
     refine sim2 hnm fun a m2 h2=>?_
     rw [isW_map hf]
     split
     ·rename_i hk
      rw [← List.map_tail]
      exact sim2 (sim_name hf (h2.tl hk)) fun b m3 h3=>.ok h3
     ·exact .ok h2
end
end Go.Proofs.Tryz
