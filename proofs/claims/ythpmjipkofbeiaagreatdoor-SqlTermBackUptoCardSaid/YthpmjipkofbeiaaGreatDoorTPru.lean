import Derived.Test.YthpmjipkofbeiaaGreatDoorPre
set_option linter.all false
namespace Go.Proofs.Tryz
open Go.Ab
set_option maxRecDepth 100000
set_option maxHeartbeats 4000000
def blankB (c:UInt8):Bool:=c==32||c==10
def twoW:List (List UInt8):=[[60,62],[60,61],[62,61],[124,124]]
def oneB:List UInt8:=[61,60,62,43,45,42,47,40,41,44,46,59]
def lexR (r:List UInt8):Int×Nat×List UInt8×Int:=match r with
 | []=>(5,0,[],0)
 | c::q =>
   if lowr c=true then (if 1+(q.takeWhile nameB).length≤16 then (1,1+(q.takeWhile nameB).length,r.take (1+(q.takeWhile nameB).length),0) else (0,0,[],0))
   else if isDig c=true then (if (resP (r.take (1+(q.takeWhile isDig).length))).2=0∧(resP (r.take (1+(q.takeWhile isDig).length))).1.k=1 then
    (2,1+(q.takeWhile isDig).length,r.take (1+(q.takeWhile isDig).length),(resP (r.take (1+(q.takeWhile isDig).length))).1.n) else (0,0,[],0))
   else if c=39 then (match q.findIdx? (·==39) with
    | some i=>if (resP (r.take (i+2))).2=0 then (3,i+2,(resP (r.take (i+2))).1.t,0) else (0,0,[],0)
    | none=>(0,0,[],0))
   else if q ≠ []∧twoW.contains (r.take 2)=true then (4,2,r.take 2,0)
   else if oneB.contains c=true then (4,1,[c],0)
   else (0,0,[],0)
def skipB (s:List UInt8) (a:Nat):Nat:=a+((s.drop a).takeWhile blankB).length
def scanT (s:List UInt8) (at':Nat):Tk :=
 ⟨(lexR (s.drop (skipB s at'))).1,(s.drop (skipB s at')).take (lexR (s.drop (skipB s at'))).2.1,(lexR (s.drop (skipB s at'))).2.2.1,(lexR (s.drop (skipB s at'))).2.2.2,skipB s at',skipB s at'+(lexR (s.drop (skipB s at'))).2.1⟩
def Tk.ends (t:Tk):Bool:=t.kd==0||t.kd==5
def tokF (s:List UInt8):Nat→Nat→List Tk
 | 0,_=>[]
 | k+1,a=>if (scanT s a).ends=true then [scanT s a] else scanT s a::tokF s k (scanT s a).to
def toks (s:List UInt8):List Tk:=tokF s (s.length+1) 0
theorem lex_len (r:List UInt8):(lexR r).2.1≤r.length∧((lexR r).1=0∨(lexR r).1=5∨1≤(lexR r).2.1):=by
 unfold lexR
 split
 ·exact ⟨Nat.le_refl _,.inr (.inl rfl)⟩
 ·rename_i c q
  have tw:=fun p:UInt8→Bool=>(List.takeWhile_sublist (l:=q) p).length_le
  have t1:=tw nameB
  have t2:=tw isDig
  split
  ·split
   ·exact ⟨by simp only [List.length_cons]; omega,.inr (.inr (by simp only; omega))⟩
   ·exact ⟨Nat.zero_le _,.inl rfl⟩
  ·split
   ·split
    ·exact ⟨by simp only [List.length_cons]; omega,.inr (.inr (by simp only; omega))⟩
    ·exact ⟨Nat.zero_le _,.inl rfl⟩
   ·split
    ·split
     ·rename_i i hi
      have hl:=(List.findIdx?_eq_some_iff_getElem.1 hi).1
      split
      ·exact ⟨by simp only [List.length_cons]; omega,.inr (.inr (by simp only; omega))⟩
      ·exact ⟨Nat.zero_le _,.inl rfl⟩
     ·exact ⟨Nat.zero_le _,.inl rfl⟩
    ·split
     ·rename_i h
      have:q.length ≠ 0:=fun e=>h.1 (List.length_eq_zero_iff.1 e)
      exact ⟨by simp only [List.length_cons]; omega,.inr (.inr (by simp only; omega))⟩
     ·split
      ·exact ⟨by simp only [List.length_cons]; omega,.inr (.inr (by simp only; omega))⟩
      ·exact ⟨Nat.zero_le _,.inl rfl⟩
theorem skip_le {s:List UInt8} {a:Nat} (h:a≤s.length):a≤skipB s a∧skipB s a≤s.length:=by
 unfold skipB
 have:=(List.takeWhile_sublist (l:=s.drop a) blankB).length_le
 rw [List.length_drop] at this
 omega
theorem scan_to {s:List UInt8} {a:Nat} (h:a≤s.length):(scanT s a).fr≤(scanT s a).to∧(scanT s a).to≤s.length∧a≤(scanT s a).fr∧((scanT s a).ends=false→a<(scanT s a).to):=by
 have h1:=skip_le h
 have h2:=lex_len (s.drop (skipB s a))
 rw [List.length_drop] at h2
 unfold Tk.ends scanT
 simp only
 refine ⟨by omega,by omega,by omega,fun he=>?_⟩
 simp only [Bool.or_eq_false_iff,beq_eq_false_iff_ne] at he
 rcases h2.2 with h | h | h
 ·exact absurd h he.1
 ·exact absurd h he.2
 ·omega
def Chain (s:List UInt8):List Tk→Prop
 | []=>False
 | [t]=>t.ends=true
 | t::u::r=>t.ends=false∧u=scanT s t.to∧Chain s (u::r)
theorem tokF_chain {s:List UInt8}:∀ (k a:Nat),a≤s.length→s.length+1≤k+a→Chain s (tokF s k a)∧(tokF s k a).head?=some (scanT s a)
 | 0,a,h,hk=>by omega
 | k+1,a,h,hk=>by
   obtain ⟨h1,h2,h3,h4⟩:=scan_to h
   rw [tokF]
   split
   ·rename_i he
    exact ⟨he,rfl⟩
   ·rename_i he
    have he':(scanT s a).ends=false:=by simpa using he
    have:=h4 he'
    obtain ⟨c1,c2⟩:=tokF_chain k (scanT s a).to h2 (by omega)
    refine ⟨?_,rfl⟩
    cases ht:tokF s k (scanT s a).to with
    | nil=>rw [ht] at c2; cases c2
    | cons u r =>
      rw [ht] at c1 c2
      simp only [List.head?_cons,Option.some.injEq] at c2
      exact ⟨he',c2,c1⟩
theorem toks_chain (s:List UInt8):Chain s (toks s):=(tokF_chain (s.length+1) 0 (Nat.zero_le _) (by omega)).1
theorem chain_sfx2 {s:List UInt8}:∀ {l l':List Tk},Chain s l→l' <:+ l→l' ≠ []→Chain s l'
 | [],l',h,_,_=>h.elim
 | t::r,l',h,hs,hn=>by
   rcases List.suffix_cons_iff.1 hs with e | hs
   ·rw [e]; exact h
   ·cases r with
    | nil=>exact absurd (List.suffix_nil.1 hs) hn
    | cons u r=>exact chain_sfx2 h.2.2 hs hn
section
variable (tm:List Tk→Res Tm) (st:List Tk→Res Sm)
end
section
variable (tm:RS→Tm×RS) (st:RS→Sm×RS)
end
def EqG {α:Type} (r:Res α) (q:α×RS):Prop:=match r with
 | .ok (t,l)=>q=(t,(l,-1))
 | .error p=>q.2.2=(p:Int)
theorem eqG_of {r:Res Tm} {q:Tm×RS} (h:Eqv r q):EqG r q:=by
 cases r with
 | error p=>exact h
 | ok x=>exact h
section
variable {tm:List Tk→Res Tm} {st:List Tk→Res Sm} {rt:RS→Tm×RS} {rs:RS→Sm×RS}
variable (hT:∀ l,okL l→EqG (tm l) (rt (l,-1))) (hTb:∀ s:RS,0≤s.2→(rt s).2=s) (hTs:∀ l,SfxOk (tm l) l)
variable (hS:∀ l,okL l→EqG (st l) (rs (l,-1))) (hSb:∀ s:RS,0≤s.2→(rs s).2=s) (hSs:∀ l,SfxOk (st l) l)
end
theorem parG (N:Nat):∀ l,okL l→EqG (parP N 0 l) (parR N 0 (l,-1)):=fun l hl=>eqG_of (par_eqv N 0 l hl)
end Go.Proofs.Tryz
