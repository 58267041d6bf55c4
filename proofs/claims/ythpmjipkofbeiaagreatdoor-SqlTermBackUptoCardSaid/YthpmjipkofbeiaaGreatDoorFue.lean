import Derived.Test.YthpmjipkofbeiaaGreatDoorPre
set_option linter.all false
namespace Go.Proofs.Tryz
open Go.Ab
set_option maxRecDepth 100000
set_option maxHeartbeats 4000000
def need (lvl:Nat) (l:List Tk):Nat:=9*l.length+8 - lvl
theorem isW_len {w:List UInt8} {l:List Tk} (h:isW w l=true):l.tail.length+1=l.length:=by
 cases l with
 | nil=>cases h
 | cons t r=>simp
theorem one_len {ws:List (List UInt8)} {l:List Tk} {i:Nat} (h:oneOf ws l=some i):l.tail.length+1=l.length:=by
 cases l with
 | nil=>rw [one_nil] at h; cases h
 | cons t r=>simp
theorem sfx_len {α:Type} {r:Res α} {l l':List Tk} {t:α} (hs:SfxOk r l) (h:r=.ok (t,l')):l'.length≤l.length:=(hs t l' h).length_le
theorem exp_len {ws:List (List UInt8)} {l l':List Tk} (h:expS ws l=.ok l'):l'.length≤l.length:=(exp_sfx _ _ _ h).length_le
def Agr (L:Nat) (p q:List Tk→Res Tm):Prop:=∀ l,l.length≤L→p l=q l
section
variable {L:Nat} {p q:List Tk→Res Tm} (h:Agr L p q) (hs:∀ l,SfxOk (p l) l)
include h hs
theorem bind_agr {β:Type} {l:List Tk} (hl:l.length≤L) {f g:Tm→List Tk→Res β} (hf:∀ t l',l'.length≤l.length→f t l'=g t l'):bind2 (p l) f=bind2 (q l) g:=by
 rw [← h l hl]
 cases hr:p l with
 | error e=>rfl
 | ok x=>exact hf x.1 x.2 (sfx_len (hs l) hr)
theorem chain_agr' (sg:List (List UInt8)) (ops:List Int):∀ (k:Nat) (out:Tm) (l:List Tk),l.length≤L→chainS p sg ops k out l=chainS q sg ops k out l
 | 0,out,l,hl=>rfl
 | k+1,out,l,hl=>by
   rw [chainS,chainS]
   cases ho:oneOf sg l with
   | none=>rfl
   | some i =>
     have h1:=one_len ho
     simp only
     rw [← h l.tail (by omega)]
     cases hr:p l.tail with
     | error e=>rfl
     | ok x =>
       obtain ⟨t,l'⟩:=x
       have:=sfx_len (hs _) hr
       exact chain_agr' sg ops k _ l' (by omega)
theorem more_agr:∀ (k:Nat) (ks:List Tm) (l:List Tk),l.length≤L→moreS p k ks l=moreS q k ks l
 | 0,ks,l,hl=>rfl
 | k+1,ks,l,hl=>by
   rw [moreS,moreS]
   split
   ·rename_i hw
    have h1:=isW_len hw
    exact bind_agr h hs (by omega) fun t l' h2=>more_agr k _ l' (by omega)
   ·rfl
omit h hs in
theorem bind1_agr {β:Type} {ws:List (List UInt8)} {l:List Tk} {f g:List Tk→Res β} (hf:∀ l',l'.length≤l.length→f l'=g l'):bind1 (expS ws l) f=bind1 (expS ws l) g:=by
 cases hr:expS ws l with
 | error e=>rfl
 | ok l'=>exact hf l' (exp_len hr)
theorem rest_agr:∀ (k:Nat) (ks:List Tm) (l:List Tk),l.length≤L→restS p k ks l=restS q k ks l
 | 0,ks,l,hl=>rfl
 | k+1,ks,l,hl=>by
   rw [restS,restS]
   exact bind1_agr fun l1 h1=>bind_agr h hs (by omega) fun t l2 h2=>rest_agr k _ l2 (by omega)
theorem list_agr (m:Nat) (l:List Tk) (hl:l.length≤L):listS p m l=listS q m l:=by
 unfold listS
 exact bind1_agr fun l1 h1=>bind_agr h hs (by omega) fun t l2 h2=>by rw [rest_agr h hs m _ l2 (by omega)]
theorem case_agr:∀ (ws:List (List UInt8)) (ks:List Tm) (l:List Tk),l.length≤L→caseS p ws ks l=caseS q ws ks l
 | [],ks,l,hl=>rfl
 | w::ws,ks,l,hl=>by
   rw [caseS,caseS]
   exact bind1_agr fun l1 h1=>bind_agr h hs (by omega) fun t l2 h2=>case_agr ws _ l2 (by omega)
theorem agg_agr (i:Nat) (l:List Tk) (hl:l.length≤L):aggS p i l=aggS q i l:=by
 unfold aggS
 refine bind1_agr fun l1 h1=>?_
 split
 ·rfl
 ·split
  ·rename_i hw
   have h2:=isW_len hw.2
   exact bind_agr h hs (by omega) fun t l2 _=>rfl
  ·exact bind_agr h hs (by omega) fun t l2 _=>rfl
end
theorem par_fuel:∀ (n m lvl:Nat) (l:List Tk),lvl≤7→need lvl l≤n→need lvl l≤m→parP n lvl l=parP m lvl l
 | 0,m,lvl,l,hv,hn,hm=>by unfold need at hn; omega
 | n+1,0,lvl,l,hv,hn,hm=>by unfold need at hm; omega
 | n+1,m+1,lvl,l,hv,hn,hm=>by
   unfold need at hn hm
   have ih:∀ lv,lv≤7→∀ l',9*l'.length+8 - lv≤n→9*l'.length+8 - lv≤m→parP n lv l'=parP m lv l':=fun lv h7 l' h1 h2=>par_fuel n m lv l' h7 h1 h2
   have ag:∀ lv,lv≤7→lvl<lv→Agr l.length (parP n lv) (parP m lv):=fun lv h7 hl l' hl'=>ih lv h7 l' (by omega) (by omega)
   have a0:1≤l.length→Agr (l.length - 1) (parP n 0) (parP m 0):=fun h1 l' hl'=>ih 0 (by omega) l' (by omega) (by omega)
   match lvl,hv with
   | 0,_ =>
     rw [parP,parP]
     exact bind_agr (ag 1 (by omega) (by omega)) (par_sfx n 1) (Nat.le_refl _) fun t l' h=>chain_agr' (ag 1 (by omega) (by omega)) (par_sfx n 1) _ _ _ t l' h
   | 1,_ =>
     rw [parP,parP]
     exact bind_agr (ag 2 (by omega) (by omega)) (par_sfx n 2) (Nat.le_refl _) fun t l' h=>chain_agr' (ag 2 (by omega) (by omega)) (par_sfx n 2) _ _ _ t l' h
   | 2,_ =>
     rw [parP,parP]
     split
     ·rename_i hw
      have:=isW_len hw
      unfold mapT
      rw [ih 2 (by omega) l.tail (by omega) (by omega)]
     ·exact ag 3 (by omega) (by omega) l (Nat.le_refl _)
   | 3,_ =>
     rw [parP,parP]
     refine bind_agr (ag 4 (by omega) (by omega)) (par_sfx n 4) (Nat.le_refl _) fun a l' hl'=>?_
     cases ho:oneOf cmpW l' with
     | some i =>
       have:=one_len ho
       simp only
       unfold mapT
       rw [ih 4 (by omega) l'.tail (by omega) (by omega)]
     | none =>
       simp only
       split
       ·rfl
       ·split
        ·rename_i hw
         have:=isW_len hw
         have a1:=a0 (by omega)
         exact bind1_agr fun l2 h2=>bind_agr a1 (par_sfx n 0) (by omega) fun b l3 h3=>by rw [more_agr a1 (par_sfx n 0) _ _ l3 (by omega)]
        ·rfl
   | 4,_ =>
     rw [parP,parP]
     exact bind_agr (ag 5 (by omega) (by omega)) (par_sfx n 5) (Nat.le_refl _) fun t l' h=>chain_agr' (ag 5 (by omega) (by omega)) (par_sfx n 5) _ _ _ t l' h
   | 5,_ =>
     rw [parP,parP]
     exact bind_agr (ag 6 (by omega) (by omega)) (par_sfx n 6) (Nat.le_refl _) fun t l' h=>chain_agr' (ag 6 (by omega) (by omega)) (par_sfx n 6) _ _ _ t l' h
   | 6,_ =>
     rw [parP,parP]
     split
     ·rename_i hw
      have:=isW_len hw
      split
      ·rfl
      ·unfold mapT
       rw [ih 6 (by omega) l.tail (by omega) (by omega)]
     ·exact ag 7 (by omega) (by omega) l (Nat.le_refl _)
   | 7,_ =>
     cases l with
     | nil=>rw [parP,parP]
     | cons t r =>
       have a1:=a0 (by simp)
       simp only [List.length_cons,Nat.add_sub_cancel] at a1
       rw [parP,parP]
       rw [bind_agr a1 (par_sfx n 0) (l:=r) (Nat.le_refl _) (fun t l2 _=>rfl),list_agr a1 (par_sfx n 0) 0 r (Nat.le_refl _),list_agr a1 (par_sfx n 0) 1 r (Nat.le_refl _),case_agr a1 (par_sfx n 0) _ _ r (Nat.le_refl _)]
       cases ho:oneOf aggW (t::r) with
       | none=>rfl
       | some i =>
         simp only
         rw [agg_agr a1 (par_sfx n 0) i r (Nat.le_refl _)]
def Reads (lvl:Nat) (l:List Tk) (t:Tm) (rest:List Tk):Prop:=∃ n0,∀ n,n0≤n→parP n lvl l=.ok (t,rest)
theorem Reads.at {lvl:Nat} {l rest:List Tk} {t:Tm} (h:Reads lvl l t rest) (hv:lvl≤7) {n:Nat} (hn:need lvl l≤n):parP n lvl l=.ok (t,rest):=by
 obtain ⟨n0,h⟩:=h
 rw [par_fuel n (max n0 n) lvl l hv hn (by omega)]
 exact h _ (by omega)
end Go.Proofs.Tryz
