import Derived.Test.YthpmjipkofbeiaaGreatDoorPre
set_option linter.all false
namespace Go.Proofs.Tryz
open Go.Ab
set_option maxRecDepth 100000
set_option maxHeartbeats 4000000
def need (lvl:Nat) (l:List Tk):Nat:=9*l.length+8 - lvl
theorem isW_len {w:List UInt8} {l:List Tk} (h:isW w l=true):l.tail.length+1=l.length:=by
 cases l with
 | nil=>cases h
 | cons t r=>simp
theorem one_len {ws:List (List UInt8)} {l:List Tk} {i:Nat} (h:oneOf ws l=some i):l.tail.length+1=l.length:=by
 cases l with
 | nil=>rw [one_nil] at h; cases h
 | cons t r=>simp
theorem sfx_len {α:Type} {r:Res α} {l l':List Tk} {t:α} (hs:SfxOk r l) (h:r=.ok (t,l')):l'.length≤l.length:=(hs t l' h).length_le
theorem exp_len {ws:List (List UInt8)} {l l':List Tk} (h:expS ws l=.ok l'):l'.length≤l.length:=(exp_sfx _ _ _ h).length_le
def Agr (L:Nat) (p q:List Tk→Res Tm):Prop:=∀ l,l.length≤L→p l=q l
section
variable {L:Nat} {p q:List Tk→Res Tm} (h:Agr L p q) (hs:∀ l,SfxOk (p l) l)
include h hs
theorem bind_agr {β:Type} {l:List Tk} (hl:l.length≤L) {f g:Tm→List Tk→Res β} (hf:∀ t l',l'.length≤l.length→f t l'=g t l'):bind2 (p l) f=bind2 (q l) g:=by
 rw [← h l hl]
 cases hr:p l with
 | error e=>rfl
 | ok x=>exact hf x.1 x.2 (sfx_len (hs l) hr)
theorem chain_agr' (sg:List (List UInt8)) (ops:List Int):∀ (k:Nat) (out:Tm) (l:List Tk),l.length≤L→chainS p sg ops k out l=chainS q sg ops k out l
 | 0,out,l,hl=>rfl
 | k+1,out,l,hl=>by
   rw [chainS,chainS]
   cases ho:oneOf sg l with
   | none=>rfl
   | some i =>
     have h1:=one_len ho
     simp only
     rw [← h l.tail (by omega)]
     cases hr:p l.tail with
     | error e=>rfl
     | ok x =>
       obtain ⟨t,l'⟩:=x
       have:=sfx_len (hs _) hr
       exact chain_agr' sg ops k _ l' (by omega)
theorem more_agr:∀ (k:Nat) (ks:List Tm) (l:List Tk),l.length≤L→moreS p k ks l=moreS q k ks l
 | 0,ks,l,hl=>rfl
 | k+1,ks,l,hl=>by
   rw [moreS,moreS]
   split
   ·rename_i hw
    have h1:=isW_len hw
    exact bind_agr h hs (by omega) fun t l' h2=>more_agr k _ l' (by omega)
   ·rfl
omit h hs in
theorem bind1_agr {β:Type} {ws:List (List UInt8)} {l:List Tk} {f g:List Tk→Res β} (hf:∀ l',l'.length≤l.length→f l'=g l'):bind1 (expS ws l) f=bind1 (expS ws l) g:=by
 cases hr:expS ws l with
 | error e=>rfl
 | ok l'=>exact hf l' (exp_len hr)
theorem rest_agr:∀ (k:Nat) (ks:List Tm) (l:List Tk),l.length≤L→restS p k ks l=restS q k ks l
 | 0,ks,l,hl=>rfl
 | k+1,ks,l,hl=>by
   rw [restS,restS]
   exact bind1_agr fun l1 h1=>bind_agr h hs (by omega) fun t l2 h2=>rest_agr k _ l2 (by omega)
theorem list_agr (m:Nat) (l:List Tk) (hl:l.length≤L):listS p m l=listS q m l:=by
 unfold listS
 exact bind1_agr fun l1 h1=>bind_agr h hs (by omega) fun t l2 h2=>by rw [rest_agr h hs m _ l2 (by omega)]
theorem case_agr:∀ (ws:List (List UInt8)) (ks:List Tm) (l:List Tk),l.length≤L→caseS p ws ks l=caseS q ws ks l
 | [],ks,l,hl=>rfl
 | w::ws,ks,l,hl=>by
   rw [caseS,caseS]
   exact bind1_agr fun l1 h1=>bind_agr h hs (by omega) fun t l2 h2=>case_agr ws _ l2 (by omega)
theorem agg_agr (i:Nat) (l:List Tk) (hl:l.length≤L):aggS p i l=aggS q i l:=by
 unfold aggS
 refine bind1_agr fun l1 h1=>?_
 split
 ·rfl
 ·split
  ·rename_i hw
   have h2:=isW_len hw.2
   exact bind_agr h hs (by omega) fun t l2 _=>rfl
  ·exact bind_agr h hs (by omega) fun t l2 _=>rfl
end
theorem par_fuel:∀ (n m lvl:Nat) (l:List Tk),lvl≤7→need lvl l≤n→need lvl l≤m→parP n lvl l=parP m lvl l
 | 0,m,lvl,l,hv,hn,hm=>by unfold need at hn; omega
 | n+1,0,lvl,l,hv,hn,hm=>by unfold need at hm; omega
 | n+1,m+1,lvl,l,hv,hn,hm=>by
   unfold need at hn hm
   have ih:∀ lv,lv≤7→∀ l',9*l'.length+8 - lv≤n→9*l'.length+8 - lv≤m→parP n lv l'=parP m lv l':=fun lv h7 l' h1 h2=>par_fuel n m lv l' h7 h1 h2
   have ag:∀ lv,lv≤7→lvl<lv→Agr l.length (parP n lv) (parP m lv):=fun lv h7 hl l' hl'=>ih lv h7 l' (by omega) (by omega)
   have a0:1≤l.length→Agr (l.length - 1) (parP n 0) (parP m 0):=fun h1 l' hl'=>ih 0 (by omega) l' (by omega) (by omega)
   match lvl,hv with
   | 0,_ =>
     rw [parP,parP]
     exact bind_agr (ag 1 (by omega) (by omega)) (par_sfx n 1) (Nat.le_refl _) fun t l' h=>chain_agr' (ag 1 (by omega) (by omega)) (par_sfx n 1) _ _ _ t l' h
   | 1,_ =>
     rw [parP,parP]
     exact bind_agr (ag 2 (by omega) (by omega)) (par_sfx n 2) (Nat.le_refl _) fun t l' h=>chain_agr' (ag 2 (by omega) (by omega)) (par_sfx n 2) _ _ _ t l' h
   | 2,_ =>
     rw [parP,parP]
     split
     ·rename_i hw
      have:=isW_len hw
      unfold mapT
      rw [ih 2 (by omega) l.tail (by omega) (by omega)]
     ·exact ag 3 (by omega) (by omega) l (Nat.le_refl _)
   | 3,_ =>
     rw [parP,parP]
     refine bind_agr (ag 4 (by omega) (by omega)) (par_sfx n 4) (Nat.le_refl _) fun a l' hl'=>?_
     cases ho:oneOf cmpW l' with
     | some i =>
       have:=one_len ho
       simp only
       unfold mapT
       rw [ih 4 (by omega) l'.tail (by omega) (by omega)]
     | none =>
       simp only
       split
       ·rfl
       ·split
        ·rename_i hw
         have:=isW_len hw
         have a1:=a0 (by omega)
         exact bind1_agr fun l2 h2=>bind_agr a1 (par_sfx n 0) (by omega) fun b l3 h3=>by rw [more_agr a1 (par_sfx n 0) _ _ l3 (by omega)]
        ·rfl
   | 4,_ =>
     rw [parP,parP]
     exact bind_agr (ag 5 (by omega) (by omega)) (par_sfx n 5) (Nat.le_refl _) fun t l' h=>chain_agr' (ag 5 (by omega) (by omega)) (par_sfx n 5) _ _ _ t l' h
   | 5,_ =>
     rw [parP,parP]
     exact bind_agr (ag 6 (by omega) (by omega)) (par_sfx n 6) (Nat.le_refl _) fun t l' h=>chain_agr' (ag 6 (by omega) (by omega)) (par_sfx n 6) _ _ _ t l' h
   | 6,_ =>
     rw [parP,parP]
     split
     ·rename_i hw
      have:=isW_len hw
      split
      ·rfl
      ·unfold mapT
       rw [ih 6 (by omega) l.tail (by omega) (by omega)]
     ·exact ag 7 (by omega) (by omega) l (Nat.le_refl _)
   | 7,_ =>
     cases l with
     | nil=>rw [parP,parP]
     | cons t r =>
       have a1:=a0 (by simp)
       simp only [List.length_cons,Nat.add_sub_cancel] at a1
       rw [parP,parP]
       rw [bind_agr a1 (par_sfx n 0) (l:=r) (Nat.le_refl _) (fun t l2 _=>rfl),list_agr a1 (par_sfx n 0) 0 r (Nat.le_refl _),list_agr a1 (par_sfx n 0) 1 r (Nat.le_refl _),case_agr a1 (par_sfx n 0) _ _ r (Nat.le_refl _)]
       cases ho:oneOf aggW (t::r) with
       | none=>rfl
       | some i =>
         simp only
         rw [agg_agr a1 (par_sfx n 0) i r (Nat.le_refl _)]
def Reads (lvl:Nat) (l:List Tk) (t:Tm) (rest:List Tk):Prop:=∃ n0,∀ n,n0≤n→parP n lvl l=.ok (t,rest)
theorem Reads.at {lvl:Nat} {l rest:List Tk} {t:Tm} (h:Reads lvl l t rest) (hv:lvl≤7) {n:Nat} (hn:need lvl l≤n):parP n lvl l=.ok (t,rest):=by
 obtain ⟨n0,h⟩:=h
 rw [par_fuel n (max n0 n) lvl l hv hn (by omega)]
 exact h _ (by omega)
def blankB (c:UInt8):Bool:=c==32||c==10
def twoW:List (List UInt8):=[[60,62],[60,61],[62,61],[124,124]]
def oneB:List UInt8:=[61,60,62,43,45,42,47,40,41,44,46,59]
def lexR (r:List UInt8):Int×Nat×List UInt8×Int:=match r with
 | []=>(5,0,[],0)
 | c::q =>
   if lowr c=true then (if 1+(q.takeWhile nameB).length≤16 then (1,1+(q.takeWhile nameB).length,r.take (1+(q.takeWhile nameB).length),0) else (0,0,[],0))
   else if isDig c=true then (if (resP (r.take (1+(q.takeWhile isDig).length))).2=0∧(resP (r.take (1+(q.takeWhile isDig).length))).1.k=1 then
    (2,1+(q.takeWhile isDig).length,r.take (1+(q.takeWhile isDig).length),(resP (r.take (1+(q.takeWhile isDig).length))).1.n) else (0,0,[],0))
   else if c=39 then (match q.findIdx? (·==39) with
    | some i=>if (resP (r.take (i+2))).2=0 then (3,i+2,(resP (r.take (i+2))).1.t,0) else (0,0,[],0)
    | none=>(0,0,[],0))
   else if q ≠ []∧twoW.contains (r.take 2)=true then (4,2,r.take 2,0)
   else if oneB.contains c=true then (4,1,[c],0)
   else (0,0,[],0)
def skipB (s:List UInt8) (a:Nat):Nat:=a+((s.drop a).takeWhile blankB).length
def scanT (s:List UInt8) (at':Nat):Tk :=
 ⟨(lexR (s.drop (skipB s at'))).1,(s.drop (skipB s at')).take (lexR (s.drop (skipB s at'))).2.1,(lexR (s.drop (skipB s at'))).2.2.1,(lexR (s.drop (skipB s at'))).2.2.2,skipB s at',skipB s at'+(lexR (s.drop (skipB s at'))).2.1⟩
def Tk.ends (t:Tk):Bool:=t.kd==0||t.kd==5
def tokF (s:List UInt8):Nat→Nat→List Tk
 | 0,_=>[]
 | k+1,a=>if (scanT s a).ends=true then [scanT s a] else scanT s a::tokF s k (scanT s a).to
def toks (s:List UInt8):List Tk:=tokF s (s.length+1) 0
theorem lex_len (r:List UInt8):(lexR r).2.1≤r.length∧((lexR r).1=0∨(lexR r).1=5∨1≤(lexR r).2.1):=by
 unfold lexR
 split
 ·exact ⟨Nat.le_refl _,.inr (.inl rfl)⟩
 ·rename_i c q
  have tw:=fun p:UInt8→Bool=>(List.takeWhile_sublist (l:=q) p).length_le
  have t1:=tw nameB
  have t2:=tw isDig
  split
  ·split
   ·exact ⟨by simp only [List.length_cons]; omega,.inr (.inr (by simp only; omega))⟩
   ·exact ⟨Nat.zero_le _,.inl rfl⟩
  ·split
   ·split
    ·exact ⟨by simp only [List.length_cons]; omega,.inr (.inr (by simp only; omega))⟩
    ·exact ⟨Nat.zero_le _,.inl rfl⟩
   ·split
    ·split
     ·rename_i i hi
      have hl:=(List.findIdx?_eq_some_iff_getElem.1 hi).1
      split
      ·exact ⟨by simp only [List.length_cons]; omega,.inr (.inr (by simp only; omega))⟩
      ·exact ⟨Nat.zero_le _,.inl rfl⟩
     ·exact ⟨Nat.zero_le _,.inl rfl⟩
    ·split
     ·rename_i h
      have:q.length ≠ 0:=fun e=>h.1 (List.length_eq_zero_iff.1 e)
      exact ⟨by simp only [List.length_cons]; omega,.inr (.inr (by simp only; omega))⟩
     ·split
      ·exact ⟨by simp only [List.length_cons]; omega,.inr (.inr (by simp only; omega))⟩
      ·exact ⟨Nat.zero_le _,.inl rfl⟩
theorem skip_le {s:List UInt8} {a:Nat} (h:a≤s.length):a≤skipB s a∧skipB s a≤s.length:=by
 unfold skipB
 have:=(List.takeWhile_sublist (l:=s.drop a) blankB).length_le
 rw [List.length_drop] at this
 omega
theorem scan_to {s:List UInt8} {a:Nat} (h:a≤s.length):(scanT s a).fr≤(scanT s a).to∧(scanT s a).to≤s.length∧a≤(scanT s a).fr∧((scanT s a).ends=false→a<(scanT s a).to):=by
 have h1:=skip_le h
 have h2:=lex_len (s.drop (skipB s a))
 rw [List.length_drop] at h2
 unfold Tk.ends scanT
 simp only
 refine ⟨by omega,by omega,by omega,fun he=>?_⟩
 simp only [Bool.or_eq_false_iff,beq_eq_false_iff_ne] at he
 rcases h2.2 with h | h | h
 ·exact absurd h he.1
 ·exact absurd h he.2
 ·omega
def Chain (s:List UInt8):List Tk→Prop
 | []=>False
 | [t]=>t.ends=true
 | t::u::r=>t.ends=false∧u=scanT s t.to∧Chain s (u::r)
theorem tokF_chain {s:List UInt8}:∀ (k a:Nat),a≤s.length→s.length+1≤k+a→Chain s (tokF s k a)∧(tokF s k a).head?=some (scanT s a)
 | 0,a,h,hk=>by omega
 | k+1,a,h,hk=>by
   obtain ⟨h1,h2,h3,h4⟩:=scan_to h
   rw [tokF]
   split
   ·rename_i he
    exact ⟨he,rfl⟩
   ·rename_i he
    have he':(scanT s a).ends=false:=by simpa using he
    have:=h4 he'
    obtain ⟨c1,c2⟩:=tokF_chain k (scanT s a).to h2 (by omega)
    refine ⟨?_,rfl⟩
    cases ht:tokF s k (scanT s a).to with
    | nil=>rw [ht] at c2; cases c2
    | cons u r =>
      rw [ht] at c1 c2
      simp only [List.head?_cons,Option.some.injEq] at c2
      exact ⟨he',c2,c1⟩
theorem toks_chain (s:List UInt8):Chain s (toks s):=(tokF_chain (s.length+1) 0 (Nat.zero_le _) (by omega)).1
theorem chain_sfx2 {s:List UInt8}:∀ {l l':List Tk},Chain s l→l' <:+ l→l' ≠ []→Chain s l'
 | [],l',h,_,_=>h.elim
 | t::r,l',h,hs,hn=>by
   rcases List.suffix_cons_iff.1 hs with e | hs
   ·rw [e]; exact h
   ·cases r with
    | nil=>exact absurd (List.suffix_nil.1 hs) hn
    | cons u r=>exact chain_sfx2 h.2.2 hs hn
section
variable (tm:List Tk→Res Tm) (st:List Tk→Res Sm)
end
section
variable (tm:RS→Tm×RS) (st:RS→Sm×RS)
end
def EqG {α:Type} (r:Res α) (q:α×RS):Prop:=match r with
 | .ok (t,l)=>q=(t,(l,-1))
 | .error p=>q.2.2=(p:Int)
theorem eqG_of {r:Res Tm} {q:Tm×RS} (h:Eqv r q):EqG r q:=by
 cases r with
 | error p=>exact h
 | ok x=>exact h
section
variable {tm:List Tk→Res Tm} {st:List Tk→Res Sm} {rt:RS→Tm×RS} {rs:RS→Sm×RS}
variable (hT:∀ l,okL l→EqG (tm l) (rt (l,-1))) (hTb:∀ s:RS,0≤s.2→(rt s).2=s) (hTs:∀ l,SfxOk (tm l) l)
variable (hS:∀ l,okL l→EqG (st l) (rs (l,-1))) (hSb:∀ s:RS,0≤s.2→(rs s).2=s) (hSs:∀ l,SfxOk (st l) l)
end
theorem parG (N:Nat):∀ l,okL l→EqG (parP N 0 l) (parR N 0 (l,-1)):=fun l hl=>eqG_of (par_eqv N 0 l hl)
end Go.Proofs.Tryz
