import Derived.Test.YthpmjipkofbeiaaGreatDoorPre
import Derived.Test.YthpmjipkofbeiaaGreatDoorUShb
import Derived.Lib.SmallJoins
import Derived.LaidMore
import Derived.HandedShaped
import Derived.Test.YthpmjipkofbeiaaGreatDoorTie
import Derived.Test.YthpmjipkofbeiaaGreatDoorCards
set_option linter.all false
namespace Go.Proofs.Tryz
open Go.Ab
set_option maxRecDepth 100000
set_option maxHeartbeats 4000000
def vG (lvl:Nat) (l:List Tk):Nat:=9*l.length+8 - lvl
theorem eF {w:List UInt8} {l:List Tk} (h:isW w l=true):l.tail.length+1=l.length:=by
 cases l with
 | nil=>cases h
 | cons t r=>simp
theorem lI {ws:List (List UInt8)} {l:List Tk} {i:Nat} (h:bN ws l=some i):l.tail.length+1=l.length:=by
 cases l with
 | nil=>rw [mL] at h; cases h
 | cons t r=>simp
theorem qZ {α:Type} {r:cY α} {l l':List Tk} {t:α} (hs:SfxOk r l) (h:r=.ok (t,l')):l'.length≤l.length:=(hs t l' h).length_le
theorem AC {ws:List (List UInt8)} {l l':List Tk} (h:cQ ws l=.ok l'):l'.length≤l.length:=(FL _ _ _ h).length_le
def Agr (L:Nat) (p q:List Tk→cY Tm):Prop:=∀ l,l.length≤L→p l=q l
section
variable {L:Nat} {p q:List Tk→cY Tm} (h:Agr L p q) (hs:∀ l,SfxOk (p l) l)
include h hs
theorem iW {β:Type} {l:List Tk} (hl:l.length≤L) {f g:Tm→List Tk→cY β} (hf:∀ t l',l'.length≤l.length→f t l'=g t l'):aR (p l) f=aR (q l) g:=by
 rw [← h l hl]
 cases hr:p l with
 | error e=>rfl
 | ok x=>exact hf x.1 x.2 (qZ (hs l) hr)
theorem pU (sg:List (List UInt8)) (ops:List Int):∀ (k:Nat) (out:Tm) (l:List Tk),l.length≤L→cW p sg ops k out l=cW q sg ops k out l
 | 0,out,l,hl=>rfl
 | k+1,out,l,hl=>by
   rw [cW,cW]
   cases ho:bN sg l with
   | none=>rfl
   | some i =>
     have h1:=lI ho
     simp only
     rw [← h l.tail (by omega)]
     cases hr:p l.tail with
     | error e=>rfl
     | ok x =>
       obtain ⟨t,l'⟩:=x
       have:=qZ (hs _) hr
       exact pU sg ops k _ l' (by omega)
theorem UF:∀ (k:Nat) (ks:List Tm) (l:List Tk),l.length≤L→fA p k ks l=fA q k ks l
 | 0,ks,l,hl=>rfl
 | k+1,ks,l,hl=>by
   rw [fA,fA]
   split
   ·rename_i hw
    have h1:=eF hw
    exact iW h hs (by omega) fun t l' h2=>UF k _ l' (by omega)
   ·rfl
omit h hs in
theorem sH {β:Type} {ws:List (List UInt8)} {l:List Tk} {f g:List Tk→cY β} (hf:∀ l',l'.length≤l.length→f l'=g l'):cR (cQ ws l) f=cR (cQ ws l) g:=by
 cases hr:cQ ws l with
 | error e=>rfl
 | ok l'=>exact hf l' (AC hr)
theorem UG:∀ (k:Nat) (ks:List Tm) (l:List Tk),l.length≤L→kV p k ks l=kV q k ks l
 | 0,ks,l,hl=>rfl
 | k+1,ks,l,hl=>by
   rw [kV,kV]
   exact sH fun l1 h1=>iW h hs (by omega) fun t l2 h2=>UG k _ l2 (by omega)
theorem UH (m:Nat) (l:List Tk) (hl:l.length≤L):kG p m l=kG q m l:=by
 unfold kG
 exact sH fun l1 h1=>iW h hs (by omega) fun t l2 h2=>by rw [UG h hs m _ l2 (by omega)]
theorem UI:∀ (ws:List (List UInt8)) (ks:List Tm) (l:List Tk),l.length≤L→jP p ws ks l=jP q ws ks l
 | [],ks,l,hl=>rfl
 | w::ws,ks,l,hl=>by
   rw [jP,jP]
   exact sH fun l1 h1=>iW h hs (by omega) fun t l2 h2=>UI ws _ l2 (by omega)
theorem aHX (i:Nat) (l:List Tk) (hl:l.length≤L):oA p i l=oA q i l:=by
 unfold oA
 refine sH fun l1 h1=>?_
 split
 ·rfl
 ·split
  ·rename_i hw
   have h2:=eF hw.2
   exact iW h hs (by omega) fun t l2 _=>rfl
  ·exact iW h hs (by omega) fun t l2 _=>rfl
end
theorem UJ:∀ (n m lvl:Nat) (l:List Tk),lvl≤7→vG lvl l≤n→vG lvl l≤m→bA n lvl l=bA m lvl l
 | 0,m,lvl,l,hv,hn,hm=>by unfold vG at hn; omega
 | n+1,0,lvl,l,hv,hn,hm=>by unfold vG at hm; omega
 | n+1,m+1,lvl,l,hv,hn,hm=>by
   unfold vG at hn hm
   have ih:∀ lv,lv≤7→∀ l',9*l'.length+8 - lv≤n→9*l'.length+8 - lv≤m→bA n lv l'=bA m lv l':=fun lv h7 l' h1 h2=>UJ n m lv l' h7 h1 h2
   have ag:∀ lv,lv≤7→lvl<lv→Agr l.length (bA n lv) (bA m lv):=fun lv h7 hl l' hl'=>ih lv h7 l' (by omega) (by omega)
   have a0:1≤l.length→Agr (l.length - 1) (bA n 0) (bA m 0):=fun h1 l' hl'=>ih 0 (by omega) l' (by omega) (by omega)
   match lvl,hv with
   | 0,_ =>
     rw [bA,bA]
     exact iW (ag 1 (by omega) (by omega)) (aV n 1) (Nat.le_refl _) fun t l' h=>pU (ag 1 (by omega) (by omega)) (aV n 1) _ _ _ t l' h
   | 1,_ =>
     rw [bA,bA]
     exact iW (ag 2 (by omega) (by omega)) (aV n 2) (Nat.le_refl _) fun t l' h=>pU (ag 2 (by omega) (by omega)) (aV n 2) _ _ _ t l' h
   | 2,_ =>
     rw [bA,bA]
     split
     ·rename_i hw
      have:=eF hw
      unfold tP
      rw [ih 2 (by omega) l.tail (by omega) (by omega)]
     ·exact ag 3 (by omega) (by omega) l (Nat.le_refl _)
   | 3,_ =>
     rw [bA,bA]
     refine iW (ag 4 (by omega) (by omega)) (aV n 4) (Nat.le_refl _) fun a l' hl'=>?_
     cases ho:bN cmpW l' with
     | some i =>
       have:=lI ho
       simp only
       unfold tP
       rw [ih 4 (by omega) l'.tail (by omega) (by omega)]
     | none =>
       simp only
       split
       ·rfl
       ·split
        ·rename_i hw
         have:=eF hw
         have a1:=a0 (by omega)
         exact sH fun l2 h2=>iW a1 (aV n 0) (by omega) fun b l3 h3=>by rw [UF a1 (aV n 0) _ _ l3 (by omega)]
        ·rfl
   | 4,_ =>
     rw [bA,bA]
     exact iW (ag 5 (by omega) (by omega)) (aV n 5) (Nat.le_refl _) fun t l' h=>pU (ag 5 (by omega) (by omega)) (aV n 5) _ _ _ t l' h
   | 5,_ =>
     rw [bA,bA]
     exact iW (ag 6 (by omega) (by omega)) (aV n 6) (Nat.le_refl _) fun t l' h=>pU (ag 6 (by omega) (by omega)) (aV n 6) _ _ _ t l' h
   | 6,_ =>
     rw [bA,bA]
     split
     ·rename_i hw
      have:=eF hw
      split
      ·rfl
      ·unfold tP
       rw [ih 6 (by omega) l.tail (by omega) (by omega)]
     ·exact ag 7 (by omega) (by omega) l (Nat.le_refl _)
   | 7,_ =>
     cases l with
     | nil=>rw [bA,bA]
     | cons t r =>
       have a1:=a0 (by simp)
       simp only [List.length_cons,Nat.add_sub_cancel] at a1
       rw [bA,bA]
       rw [iW a1 (aV n 0) (l:=r) (Nat.le_refl _) (fun t l2 _=>rfl),UH a1 (aV n 0) 0 r (Nat.le_refl _),UH a1 (aV n 0) 1 r (Nat.le_refl _),UI a1 (aV n 0) _ _ r (Nat.le_refl _)]
       cases ho:bN aggW (t::r) with
       | none=>rfl
       | some i =>
         simp only
         rw [aHX a1 (aV n 0) i r (Nat.le_refl _)]
def Reads (lvl:Nat) (l:List Tk) (t:Tm) (rest:List Tk):Prop:=∃ n0,∀ n,n0≤n→bA n lvl l=.ok (t,rest)
theorem Reads.at {lvl:Nat} {l rest:List Tk} {t:Tm} (h:Reads lvl l t rest) (hv:lvl≤7) {n:Nat} (hn:vG lvl l≤n):bA n lvl l=.ok (t,rest):=by
 obtain ⟨n0,h⟩:=h
 rw [UJ n (max n0 n) lvl l hv hn (by omega)]
 exact h _ (by omega)
def dU (c:UInt8):Bool:=c==32||c==10
def twoW:List (List UInt8):=[[60,62],[60,61],[62,61],[124,124]]
def oneB:List UInt8:=[61,60,62,43,45,42,47,40,41,44,46,59]
def cP (r:List UInt8):Int×Nat×List UInt8×Int:=match r with
 | []=>(5,0,[],0)
 | c::q =>
   if jO c=true then (if 1+(q.takeWhile dR).length≤16 then (1,1+(q.takeWhile dR).length,r.take (1+(q.takeWhile dR).length),0) else (0,0,[],0))
   else if cU c=true then (if (dD (r.take (1+(q.takeWhile cU).length))).2=0∧(dD (r.take (1+(q.takeWhile cU).length))).1.k=1 then
    (2,1+(q.takeWhile cU).length,r.take (1+(q.takeWhile cU).length),(dD (r.take (1+(q.takeWhile cU).length))).1.n) else (0,0,[],0))
   else if c=39 then (match q.findIdx? (·==39) with
    | some i=>if (dD (r.take (i+2))).2=0 then (3,i+2,(dD (r.take (i+2))).1.t,0) else (0,0,[],0)
    | none=>(0,0,[],0))
   else if q ≠ []∧twoW.contains (r.take 2)=true then (4,2,r.take 2,0)
   else if oneB.contains c=true then (4,1,[c],0)
   else (0,0,[],0)
def gI (s:List UInt8) (a:Nat):Nat:=a+((s.drop a).takeWhile dU).length
def dP (s:List UInt8) (at':Nat):Tk :=
 ⟨(cP (s.drop (gI s at'))).1,(s.drop (gI s at')).take (cP (s.drop (gI s at'))).2.1,(cP (s.drop (gI s at'))).2.2.1,(cP (s.drop (gI s at'))).2.2.2,gI s at',gI s at'+(cP (s.drop (gI s at'))).2.1⟩
def Tk.ends (t:Tk):Bool:=t.kd==0||t.kd==5
def sI (s:List UInt8):Nat→Nat→List Tk
 | 0,_=>[]
 | k+1,a=>if (dP s a).ends=true then [dP s a] else dP s a::sI s k (dP s a).to
def bX (s:List UInt8):List Tk:=sI s (s.length+1) 0
theorem aBd (r:List UInt8):(cP r).2.1≤r.length∧((cP r).1=0∨(cP r).1=5∨1≤(cP r).2.1):=by
 unfold cP
 split
 ·exact ⟨Nat.le_refl _,.inr (.inl rfl)⟩
 ·rename_i c q
  have tw:=fun p:UInt8→Bool=>(List.takeWhile_sublist (l:=q) p).length_le
  have t1:=tw dR
  have t2:=tw cU
  split
  ·split
   ·exact ⟨by simp only [List.length_cons]; omega,.inr (.inr (by simp only; omega))⟩
   ·exact ⟨Nat.zero_le _,.inl rfl⟩
  ·split
   ·split
    ·exact ⟨by simp only [List.length_cons]; omega,.inr (.inr (by simp only; omega))⟩
    ·exact ⟨Nat.zero_le _,.inl rfl⟩
   ·split
    ·split
     ·rename_i i hi
      have hl:=(List.findIdx?_eq_some_iff_getElem.1 hi).1
      split
      ·exact ⟨by simp only [List.length_cons]; omega,.inr (.inr (by simp only; omega))⟩
      ·exact ⟨Nat.zero_le _,.inl rfl⟩
     ·exact ⟨Nat.zero_le _,.inl rfl⟩
    ·split
     ·rename_i h
      have:q.length ≠ 0:=fun e=>h.1 (List.length_eq_zero_iff.1 e)
      exact ⟨by simp only [List.length_cons]; omega,.inr (.inr (by simp only; omega))⟩
     ·split
      ·exact ⟨by simp only [List.length_cons]; omega,.inr (.inr (by simp only; omega))⟩
      ·exact ⟨Nat.zero_le _,.inl rfl⟩
theorem FJ {s:List UInt8} {a:Nat} (h:a≤s.length):a≤gI s a∧gI s a≤s.length:=by
 unfold gI
 have:=(List.takeWhile_sublist (l:=s.drop a) dU).length_le
 rw [List.length_drop] at this
 omega
theorem wM {s:List UInt8} {a:Nat} (h:a≤s.length):(dP s a).fr≤(dP s a).to∧(dP s a).to≤s.length∧a≤(dP s a).fr∧((dP s a).ends=false→a<(dP s a).to):=by
 have h1:=FJ h
 have h2:=aBd (s.drop (gI s a))
 rw [List.length_drop] at h2
 unfold Tk.ends dP
 simp only
 refine ⟨by omega,by omega,by omega,fun he=>?_⟩
 simp only [Bool.or_eq_false_iff,beq_eq_false_iff_ne] at he
 rcases h2.2 with h | h | h
 ·exact absurd h he.1
 ·exact absurd h he.2
 ·omega
def IE (s:List UInt8):List Tk→Prop
 | []=>False
 | [t]=>t.ends=true
 | t::u::r=>t.ends=false∧u=dP s t.to∧IE s (u::r)
theorem yA {s:List UInt8}:∀ (k a:Nat),a≤s.length→s.length+1≤k+a→IE s (sI s k a)∧(sI s k a).head?=some (dP s a)
 | 0,a,h,hk=>by omega
 | k+1,a,h,hk=>by
   obtain ⟨h1,h2,h3,h4⟩:=wM h
   rw [sI]
   split
   ·rename_i he
    exact ⟨he,rfl⟩
   ·rename_i he
    have he':(dP s a).ends=false:=by simpa using he
    have:=h4 he'
    obtain ⟨c1,c2⟩:=yA k (dP s a).to h2 (by omega)
    refine ⟨?_,rfl⟩
    cases ht:sI s k (dP s a).to with
    | nil=>rw [ht] at c2; cases c2
    | cons u r =>
      rw [ht] at c1 c2
      simp only [List.head?_cons,Option.some.injEq] at c2
      exact ⟨he',c2,c1⟩
theorem IF (s:List UInt8):IE s (bX s):=(yA (s.length+1) 0 (Nat.zero_le _) (by omega)).1
theorem IG {s:List UInt8}:∀ {l l':List Tk},IE s l→l' <:+ l→l' ≠ []→IE s l'
 | [],l',h,_,_=>h.elim
 | t::r,l',h,hs,hn=>by
   rcases List.suffix_cons_iff.1 hs with e | hs
   ·rw [e]; exact h
   ·cases r with
    | nil=>exact absurd (List.suffix_nil.1 hs) hn
    | cons u r=>exact IG h.2.2 hs hn
theorem VI (l:List It):KB l=fY (l.map fun i=>i.t.dep):=by
 rw [KB,dZ,List.map_map]; rfl
theorem mxi (a b:Int):(if a<b then b else a)=max a b:=by split <;> omega
theorem QA:∀ (m:Nat) (x:Sm),SizeOf.sizeOf x<m→x.fits→Cf En 39 [x.a] [] (.d (.int .i64 x.dep)) []
 | 0,_,h,_=>absurd h (by omega)
 | m+1,x,hm,hfit=>by
   refine cI fQ (fn:=Tryz.f39) rfl ?_
   have hq:=fun (a:Sm) (ha:SizeOf.sizeOf a<m) (fa:a.fits)=>QA m a ha fa
   obtain ⟨f,al,d,s,is,ft,fq,fn,js,w,g,h,ks⟩:=x
   have hfq:∀ a∈fq,SizeOf.sizeOf a<m:=fun a ha=>by
    have:=Sm.q_lt (e:=.mk f al d s is ft fq fn js w g h ks) ha
    omega
   have hks:∀ a∈ks,SizeOf.sizeOf a<m:=fun a ha=>by
    have:=Sm.kid_lt (e:=.mk f al d s is ft fq fn js w g h ks) ha
    omega
   have hjs:∀ j∈js,∀ a∈j.qs,SizeOf.sizeOf a<m:=fun j hj a ha=>by
    have:=Sm.j_lt (e:=.mk f al d s is ft fq fn js w g h ks) hj
    have:=Jo.q_lt ha
    omega
   rw [Sm.fits] at hfit
   obtain ⟨⟨fi1,fi2⟩,⟨fq1,fq2⟩,⟨fj1,fj2⟩,⟨fw1,fw2⟩,⟨fg1,fg2⟩,⟨fh1,fh2⟩,fk1,fk2⟩:=hfit
   have e1:=JP ks fk1 fun a ha=>hq a (hks a ha) (dB _ fk2 a ha)
   have e2:=JP fq fq1 fun a ha=>hq a (hfq a ha) (dB _ fq2 a ha)
   have e3:=wZ w fw1 fw2
   have e4:=wZ g fg1 fg2
   have e5:=wZ h fh1 fh2
   rw [Sm.dep,VI,EI]
   generalize hK:kN ks=K at *
   generalize hQ:kN fq=Q at *
   generalize hW:aAF w=W at *
   generalize hG:aAF g=G at *
   generalize hH:aAF h=H at *
   simp [Sm.a,Sm.c,aE,aF]
   refine ⟨.ok,aA e1 (by simp) ?_⟩
   simp
   refine aP e2 ?_
   simp
   refine aP e3 ?_
   simp
   refine aP e4 ?_
   simp
   refine aP e5 ?_
   have hN0:0≤max (max (max (max K Q) W) G) H:=by
    have:=mB (ks.map Sm.dep)
    rw [mA] at hK
    omega
   have hfin:∀ M J:Int,max K (max Q (max W (max G (max H (max M J)))))=max (max (max (max (max (max K Q) W) G) H) M) J:=fun M J=>by simp only [Int.max_assoc]
   simp [mxi]
   rw [hfin]
   generalize hN:max (max (max (max K Q) W) G) H=N at *
   clear hfin
   refine ⟨.ok,.ok,?_⟩
   refine aL fQ (fun i:Nat=>{ s:=eP [(1,.ptr 1 0 0),(3,.d (.int .i64 (max N (fY ((is.map fun i=>i.t.dep).take i))))),(4,.d (.int .i64 i))],b:=eG [(1,1,.var (Sm.a (.mk f al d s is ft fq fn js w g h ks)).cells)] }) (fun i:Nat=>i≤is.length) (fun i=>is.length - i) 0 (by simp) (aJ _ _ ⟨by simp,by simp,by simp [aD,Blk.live,Sm.a,Sm.c,aE,aF],by simp⟩ (by
    simp [aD,fY]
    omega)) ?_
   rintro i hi
   by_cases hlt:i<is.length
   ·have hlt':(i:Int)<is.length:=by omega
    have hg:is[i]?=some is[i]:=gE hlt
    have hk:=pH (l:=is.map fun i=>i.t.dep) (i:=i) (x:=is[i].t.dep) (by rw [List.getElem?_map,hg]; rfl)
    have hq:=vS
    have c1:=It.clen is[i]
    have c2:=Tm.clen is[i].t
    have k1:=Tm.ctake' is[i].t
    simp [Sm.a,Sm.c,aE,aF,hlt,hlt',It.c,c2]
    refine ⟨.ok,?_⟩
    refine aA (vT _ is[i].t (Nat.lt_succ_self _) (pT fi2 (List.getElem_mem hlt))) (by simp [Tm.a]) ?_
    simp
    refine ⟨.ok,.ok,i+1,hlt,?_,?_⟩
    ·refine sM _ [(1,1,_)] (by simp [aD,Blk.live,aE,aF]) ?_
     simp [aD]
     refine ⟨?_,aZ (by omega) (by omega)⟩
     try simp at hk
     rw [hk,mxi]
     omega
    ·simp; omega
   ·have hlt':¬ (i:Int)<is.length:=by omega
    have hall:=lG (l:=is.map fun i=>i.t.dep) (i:=i) (by simp; omega)
    generalize hM:fY (is.map fun i=>i.t.dep)=M at *
    simp [Sm.a,Sm.c,aE,aF,hlt,hlt',hall]
    refine ⟨.ok,.ok,?_⟩
    refine aL fQ (fun i:Nat=>{ s:=eP [(1,.ptr 1 0 0),(3,.d (.int .i64 (max (max N M) (fY ((js.map Jo.dep).take i))))),(5,.d (.int .i64 i))],b:=eG [(1,1,.var (Sm.a (.mk f al d s is ft fq fn js w g h ks)).cells)] }) (fun i:Nat=>i≤js.length) (fun i=>js.length - i) 0 (by simp) (sM _ [(1,1,_)] (by simp [aD,Blk.live,Sm.a,Sm.c,aE,aF]) (by
     simp [aD,fY]
     have:=mB (is.map fun i=>i.t.dep)
     try simp at hall
     omega)) ?_
    clear hi hlt hlt' hall i
    rintro i hi
    by_cases hlt:i<js.length
    ·have hlt':(i:Int)<js.length:=by omega
     obtain ⟨x,hg⟩:∃ x,js[i]?=some x:=⟨_,gE hlt⟩
     have hk:=pH (l:=js.map Jo.dep) (i:=i) (x:=x.dep) (by rw [List.getElem?_map,hg]; rfl)
     have hx:=jB _ fj2 x (List.mem_of_getElem? hg)
     have hxq:=hjs x (List.mem_of_getElem? hg)
     obtain ⟨k0,t0,q0,n0,o0⟩:=x
     rw [Jo.fits] at hx
     rw [Jo.dep] at hk
     have e1:=JP q0 hx.1.1 fun a ha=>hq a (hxq a ha) (dB _ hx.1.2 a ha)
     have e2:=wZ o0 hx.2.1 hx.2.2
     have hgi:∀ h,js[i]'h=_:=fun h=>(List.getElem?_eq_some_iff.1 hg).2
     simp [Sm.a,Sm.c,aE,aF,hlt,hlt',hgi,Jo.c]
     refine ⟨.ok,?_⟩
     refine aP e1 ?_
     simp [aE,hlt,hgi,Jo.c]
     refine aP e2 ?_
     simp
     refine ⟨.ok,.ok,i+1,hlt,?_,?_⟩
     ·refine sM _ [(1,1,_)] (by simp [aD,Blk.live,aE,aF]) ?_
      simp [aD]
      refine ⟨?_,aZ (by omega) (by omega)⟩
      try simp at hk
      rw [hk]
      simp only [mxi]
      omega
     ·simp; omega
    ·have hlt':¬ (i:Int)<js.length:=by omega
     have hall:=lG (l:=js.map Jo.dep) (i:=i) (by simp; omega)
     simp [Sm.a,Sm.c,aE,aF,hlt,hlt',hall,yO]
     exact ⟨.ok,.of (by kernel_rfl)⟩
def wSelect:List UInt8:=[115,101,108,101,99,116]
def wFrom:List UInt8:=[102,114,111,109]
def rV:List UInt8:=[97,115]
def gM:List UInt8:=[97,108,108]
def wJoin:List UInt8:=[106,111,105,110]
def yG:List UInt8:=[111,110]
def wWhere:List UInt8:=[119,104,101,114,101]
def iO:List UInt8:=[103,114,111,117,112]
def RJ:List UInt8:=[98,121]
def wHaving:List UInt8:=[104,97,118,105,110,103]
def setW:List (List UInt8):=[[117,110,105,111,110],[101,120,99,101,112,116],[105,110,116,101,114,115,101,99,116]]
def joiW:List (List UInt8):=[[105,110,110,101,114],[108,101,102,116],[114,105,103,104,116],[102,117,108,108],[115,101,109,105],[97,110,116,105],[99,114,111,115,115]]
abbrev So:=List UInt8×List Sm×List UInt8
section
variable (tm:List Tk→cY Tm) (st:List Tk→cY Sm)
def fB (w:List UInt8) (l:List Tk):Bool×List Tk:=if isW w l=true then (true,l.tail) else (false,l)
def ZY (l:List Tk):cY (List UInt8):=if isW rV l=true then gJ l.tail else .ok ([],l)
def pV (l:List Tk):cY It:=aR (tm l) fun t l1=>aR (ZY l1) fun n l2=>.ok (⟨t,n⟩,l2)
def gY:Nat→List It→List Tk→cY (List It)
 | 0,is,l=>.ok (is,l)
 | k+1,is,l=>if isW bQ l=true then aR (pV tm l.tail) fun i l'=>gY k (is++[i]) l' else .ok (is,l)
def fF (l:List Tk):cY So :=
 if isW bF l=true then aR (st l.tail) fun x l1=>cR (cQ [aY,rV] l1) fun l2=>aR (gJ l2) fun n l3=>.ok (([],[x],n),l3)
 else aR (gJ l) fun t l1=>aR (ZY l1) fun n l2=>.ok ((t,[],n),l2)
def lC (kind:Nat) (l:List Tk):cY Jo:=cR (cQ [wJoin] l) fun l1=>aR (fF st l1) fun s l2 =>
 if 6<kind then .ok (.mk 0 s.1 s.2.1 s.2.2 [],l2) else cR (cQ [yG] l2) fun l3=>aR (tm l3) fun t l4=>.ok (.mk (max kind 1:Nat) s.1 s.2.1 s.2.2 [t],l4)
def fS:Nat→List Jo→List Tk→cY (List Jo)
 | 0,js,l=>.ok (js,l)
 | k+1,js,l=>match bN joiW l with
   | some i=>aR (lC tm st (i+1) l.tail) fun j l'=>fS k (js++[j]) l'
   | none=>if isW wJoin l=true then aR (lC tm st 0 l) fun j l'=>fS k (js++[j]) l' else .ok (js,l)
def vK (w:List UInt8) (l:List Tk):cY (List Tm):=if isW w l=true then aR (tm l.tail) fun t l'=>.ok ([t],l') else .ok ([],l)
def mN (l:List Tk):cY (List Tm):=if isW iO l=true then cR (cQ [RJ] l.tail) fun l1=>aR (tm l1) fun t l2=>fA tm l2.length [t] l2 else .ok ([],l)
def rA (l:List Tk):cY (List It):=if isW fV l=true then .ok ([],l.tail) else aR (pV tm l) fun i l'=>gY tm l'.length [i] l'
def vL (l:List Tk):cY Sm:=cR (cQ [wSelect] l) fun l1 =>
 aR (rA tm (fB aO l1).2) fun is l2=>cR (cQ [wFrom] l2) fun l3=>aR (fF st l3) fun s l4=>aR (fS tm st l4.length [] l4) fun js l5 =>
 aR (vK tm wWhere l5) fun w l6=>aR (mN tm l6) fun g l7=>aR (vK tm wHaving l7) fun h l8 =>
 .ok (.mk 1 false (fB aO l1).1 (isW fV (fB aO l1).2) is s.1 s.2.1 s.2.2 js w g h [],l8)
def jQ (l:List Tk):cY Sm:=if isW bF l=true then aR (st l.tail) fun x l1=>cR (cQ [aY] l1) fun l2=>.ok (x,l2) else vL tm st l
def uI (i:Nat) (a:Bool) (x y:Sm):Sm:=.mk (2+i) a false false [] [] [] [] [] [] [] [] [x,y]
def fW:Nat→Sm→List Tk→cY Sm
 | 0,x,l=>.ok (x,l)
 | k+1,x,l=>match bN setW l with
   | none=>.ok (x,l)
   | some i=>aR (jQ tm st (fB gM l.tail).2) fun y l'=>fW k (uI i (fB gM l.tail).1 x y) l'
end
def eV (N:Nat):Nat→List Tk→cY Sm
 | 0,l=>.error (lN l)
 | n+1,l=>aR (jQ (bA N 0) (eV N n) l) fun x l'=>fW (bA N 0) (eV N n) l'.length x l'
def gZ (w:List UInt8) (s:RS):Bool×RS:=if dJ w s=true then (true,aK s) else (false,s)
def zeS:Sm:=.mk 0 false false false [] [] [] [] [] [] [] [] []
section
variable (tm:RS→Tm×RS) (st:RS→Sm×RS)
def WY (s:RS):List UInt8×RS:=if dJ rV s=true then fK (aK s) else ([],s)
def jX (s:RS):It×RS:=(⟨(tm s).1,(WY (tm s).2).1⟩,(WY (tm s).2).2)
def iX:Nat→List It→RS→List It×RS
 | 0,is,s=>(is,s)
 | k+1,is,s=>if dJ bQ s=true then iX k (is++[(jX tm (aK s)).1]) (jX tm (aK s)).2 else (is,s)
def bC (s:RS):So×RS :=
 if dJ bF s=true then
  let x:=st (aK s)
  let n:=fK (aN rV (aN aY x.2))
  (([],[x.1],n.1),n.2)
 else
  let t:=fK s
  ((t.1,[],(WY t.2).1),(WY t.2).2)
def oN (kind:Nat) (s:RS):Jo×RS :=
 let x:=bC st (aN wJoin s)
 if kind=0 then (.mk 0 x.1.1 x.1.2.1 x.1.2.2 [],x.2) else
  let t:=tm (aN yG x.2)
  (.mk kind x.1.1 x.1.2.1 x.1.2.2 [t.1],t.2)
def LM:List (List UInt8):=[[99,114,111,115,115],[105,110,110,101,114],[108,101,102,116],[114,105,103,104,116],[102,117,108,108],[115,101,109,105],[97,110,116,105]]
def dO:Nat→List Jo→RS→List Jo×RS
 | 0,js,s=>(js,s)
 | k+1,js,s=>if 0≤s.2 then (js,s) else match fR LM s with
   | some i=>dO k (js++[(oN tm st i (aK s)).1]) (oN tm st i (aK s)).2
   | none=>if dJ wJoin s=true then dO k (js++[(oN tm st 1 s).1]) (oN tm st 1 s).2 else (js,s)
def gT (w:List UInt8) (s:RS):List Tm×RS:=if dJ w s=true then ([(tm (aK s)).1],(tm (aK s)).2) else ([],s)
def fM (s:RS):List Tm×RS:=if dJ iO s=true then
    let t:=tm (aN RJ (aK s))
    gK tm t.2.1.length [t.1] t.2
 else ([],s)
def kW (s:RS):List It×RS:=if dJ fV s=true then ([],aK s) else iX tm (jX tm s).2.1.length [(jX tm s).1] (jX tm s).2
def IS (s:RS):Sm×RS :=
 let d:=gZ aO (aN wSelect s)
 let is:=kW tm d.2
 let f:=bC st (aN wFrom is.2)
 let js:=dO tm st f.2.1.length [] f.2
 let w:=gT tm wWhere js.2
 let g:=fM tm w.2
 let h:=gT tm wHaving g.2
 (.mk 1 false d.1 (dJ fV d.2) is.1 f.1.1 f.1.2.1 f.1.2.2 js.1 w.1 g.1 h.1 [],h.2)
def hU (s:RS):Sm×RS:=if dJ bF s=true then ((st (aK s)).1,aN aY (st (aK s)).2) else IS tm st s
def lX:Nat→Sm→RS→Sm×RS
 | 0,x,s=>(x,s)
 | k+1,x,s=>match fR setW s with
   | none=>(x,s)
   | some i=>lX k (uI i (gZ gM (aK s)).1 x (hU tm st (gZ gM (aK s)).2).1) (hU tm st (gZ gM (aK s)).2).2
end
def kX (N:Nat):Nat→RS→Sm×RS
 | 0,s=>(zeS,jC s)
 | n+1,s=>lX (bK N 0) (kX N n) (hU (bK N 0) (kX N n) s).2.1.length (hU (bK N 0) (kX N n) s).1 (hU (bK N 0) (kX N n) s).2
end Go.Proofs.Tryz
namespace Go.Proofs.YthpmjipkofbeiaaGreatDoor
open Go Go.ChangeMaps Go.ChangeShapes Go.WideShapes Go.ChangeAt Go.RowKit Go.Ab Go.Proofs.Tryz
set_option maxRecDepth 100000
theorem aAw {H:Type} {enc:TypeId×Value→H} {P:Program} {w:World} {base:Nat} {spare:Nat→Bool} {f:Nat} {t:TypeId} {cs:List Value} {n:String} {d:DataW H} {p:List MemPlace}
  (h:DataW.trod enc P w base spare false f t cs=some (.iface n d,p)):∃ u v,cs=[.iface u v]:=by
 cases f with
 | zero=>simp [DataW.trod] at h
 | succ f =>
   unfold DataW.trod at h
   split at h <;> first
    | exact ⟨_,_,rfl⟩
    | (simp [Option.bind_eq_some_iff,Option.map_eq_some_iff] at h; done)
    | (split at h <;> simp [Option.bind_eq_some_iff] at h; done)
    | (exfalso; split at h
       ·split at h
        ·rw [Option.bind_eq_some_iff] at h
         obtain ⟨_,_,h⟩:=h
         simp only at h
         split at h <;> simp at h
        ·cases h
       ·cases h)
theorem JW {P:Program} {w:World} {name:String} {g f:Nat} {t:TypeId} {cs:Array Value} {d:DataW Unit} {p:List MemPlace} {n:String} {en:TypeId×Value→Unit} {base:Nat} {spare:Nat→Bool}
  (hg:P.globalNamed name=some g) (hv:w.var? P name=some cs) (hd:DataW.trod en P w base spare false f t cs.toList=some (.iface n d,p)) :
  dT (iH w) g 0 [.any ZO]∧∃ a ety z,w.heap[g]?=some (.cells a ety z)∧a.size=1:=by
 obtain ⟨u,v,e⟩:=aAw hd
 have hs:cs.size=1:=by rw [← Array.length_toList,e]; rfl
 refine ⟨tG (l:=[.iface u v]) ⟨?_,trivial⟩ fun i x hi=>?_,?_⟩
 ·simp [aU,ZO,Value.oneCell']
 ·unfold iH
  rw [World.var?_cell hg hv,Nat.zero_add,← Array.getElem?_toList,e]
  exact hi
 ·simp only [World.var?,hg,Option.bind_some] at hv
  split at hv
  ·rename_i a ety z h
   simp only [Option.some.injEq] at hv
   subst hv
   exact ⟨_,_,_,h,by simpa using hs⟩
  ·cases hv
theorem own:ownKnob Tryz.prog.godebug=none:=by kernel_rfl
theorem aIU:laidOutB Tryz.prog=true:=by kernel_rfl
theorem aGl : Tryz.prog.globalNamed "querylab/value.null" = some 5 := by kernel_rfl
theorem aNr:(Tryz.prog.globals[5]?).map (·.type)=some 55:=by kernel_rfl
theorem aNs : Tryz.prog.globalNamed "strconv.ErrSyntax" = some 9 := by kernel_rfl
theorem aNt : Tryz.prog.globalNamed "strconv.ErrRange" = some 10 := by kernel_rfl
theorem aOE:(Tryz.prog.globals[4]?).map (·.type)=some 181:=by kernel_rfl
theorem aGm : Tryz.prog.globalNamed "querylab/sql.operators" = some 3 := by kernel_rfl
theorem aNu:(Tryz.prog.globals[3]?).map (·.type)=some 122:=by kernel_rfl
theorem aLK : Tryz.prog.globalNamed "querylab/sql.types" = some 0 := by kernel_rfl
theorem aOF:(Tryz.prog.globals[0]?).map (·.type)=some 87:=by kernel_rfl
theorem aLL : Tryz.prog.globalNamed "querylab/sql.aggregates" = some 1 := by kernel_rfl
theorem aOG:(Tryz.prog.globals[1]?).map (·.type)=some 91:=by kernel_rfl
theorem WD {W:World} (hs:W.ShapedOpen Tryz.prog):dT (iH W) 6 0 [.any aFh]∧∃ a ety z,W.heap[6]?=some (.cells a ety z)∧a.size=1:=by
 obtain ⟨m,hm⟩:=Go.Proofs.cell_of_shapedOpen_int (g:=6) (zero:=#[.int .i64 0]) (t:=3) hs (of_decide_eq_true (by kernel_rfl)) (by kernel_rfl) rfl (by kernel_rfl) (by kernel_rfl) Tryz.underlying3
 obtain ⟨cs,hh,hz,_⟩:=hs.1 6 #[.int .i64 0] 3 (of_decide_eq_true (by kernel_rfl)) (by kernel_rfl)
 refine ⟨?_,cs,3,(0,0),hh,hz⟩
 simp only [dT,aU]
 exact ⟨⟨.int .i64 m,hm,⟨m,rfl⟩,rfl⟩,trivial⟩
theorem aIV {H:Type} {enc:TypeId×Value→H} {W:World} {base:Nat} {spare:Nat→Bool} {held:Bool} {r:Reach} {b0:Nat} {v:Value} {d:DataW H} {p:List MemPlace}
  (hv:Value.okWide Tryz.prog W r b0 22 v) (h:DataW.Trod enc Tryz.prog W base spare held 22 v d p) :
  ∃ l:List Int,aU (iH W) v (.sl (l.map fun n=>[.int .i64 n])):=by
 obtain ⟨a,len,cap,rfl⟩:=okWide_slice (e:=3) (by kernel_rfl) hv
 obtain ⟨fuel,h⟩:=h
 rcases Go.Deep.open_slice (e:=3) (by kernel_rfl) h with ⟨hc,_⟩ | ⟨a',len',cap',m,n,D,Pl,hc,_,hl,_,hm,_,hi⟩
 ·simp only [Value.cells,List.cons.injEq,and_true] at hc
  simp at hc
  obtain ⟨rfl,rfl,rfl⟩:=hc
  exact ⟨[],by simp only [aU]; exact ⟨none,0,rfl,Nat.le_refl _,.inl rfl⟩⟩
 ·simp [Value.cells] at hc
  obtain ⟨rfl,rfl,rfl⟩:=hc
  have hsz:Tryz.prog.cellsOf 3=1:=by
   have:(Tryz.prog.cellsOf 3==1)=true:=by kernel_rfl
   simpa using this
  obtain ⟨l,_,hr⟩:=aKr (w:=W) (a:=a') (len:=len) (cap:=cap) (sz:=1) (fun n:Int=>[Go.Ab.D.int .i64 n]) hl (fun _=>rfl) (by decide) fun i hlt=>by
   obtain ⟨cs,hc,ht⟩:=hi i (by rw [hm]; split <;> omega)
   rw [hsz] at hc
   obtain ⟨_,hcl,hat⟩:=World.cells?_some hc
   obtain ⟨k,e0,_,_⟩:=DataW.trod_int (k:=.i64) (by kernel_rfl) ht
   subst e0
   refine ⟨k,fun j c hj=>?_⟩
   have hj0:j=0:=by
    have:=(List.getElem?_eq_some_iff.1 hj).1
    simpa using this
   subst hj0
   cases hj
   refine ⟨.int .i64 k,?_,by simp only [aU]⟩
   rw [← Go.Deep.add_add,hat 0 (by decide)]; rfl
  exact ⟨l,hr⟩
def aNv : List (String × DataW Unit) := [("math/bits.deBruijn32tab", Rows.laid_math_bits_deBruijn32tab), ("math/bits.deBruijn64tab", Rows.laid_math_bits_deBruijn64tab), ("internal/strconv.uint64pow10", Rows.laid_internal_strconv_uint64pow10), ("strconv.ErrRange", Rows.laid_strconv_ErrRange), ("strconv.ErrSyntax", Rows.laid_strconv_ErrSyntax), ("querylab/value.null", Rows.laid_querylab_value_null), ("querylab/sql.operators", Rows.laid_querylab_sql_operators), ("querylab/sql.types", Rows.laid_querylab_sql_types), ("querylab/sql.aggregates", Rows.laid_querylab_sql_aggregates)]
end Go.Proofs.YthpmjipkofbeiaaGreatDoor
