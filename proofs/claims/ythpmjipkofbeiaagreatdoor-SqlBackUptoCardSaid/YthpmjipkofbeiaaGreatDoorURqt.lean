import Derived.Test.YthpmjipkofbeiaaGreatDoorUBcp
set_option linter.all false
namespace Go.Proofs.Tryz
open Go.Ab
set_option maxRecDepth 100000
set_option maxHeartbeats 8000000
theorem dG {lvl:Nat} {L:List Tk} {t:Tm} {rest:List Tk} (n0:Nat) (h:∀ m,n0≤m→bA (m+1) lvl L=.ok (t,rest)):Reads lvl L t rest :=
 ⟨n0+1,fun n hn=>by
  obtain ⟨m,rfl⟩:∃ m,n=m+1:=⟨n - 1,by omega⟩
  exact h m (by omega)⟩
theorem HX (lvl:Nat) {x:List UInt8} (hx:x ∉ lA 0) {tk:Tk} (h:tk.er=wd x∨tk.er=sg x) (r:List Tk) (hl:lvl≤7):Stp lvl (tk::r):=HV h fun hm=>hx (zX 0 (by omega) lvl hl (by omega) x hm)
theorem rO {ws:List (List UInt8)} {tk:Tk} {x:List UInt8} (h:tk.er=wd x∨tk.er=sg x) (r:List Tk):bN ws (tk::r)=ws.findIdx? (fun w=>x==w):=by
 unfold bN
 have:(fun w=>isW w (tk::r))=fun w=>x==w:=by funext w; exact eY h r w
 rw [this]
theorem vD {r:Nat} {x:List UInt8} (w:List Tz) (h1:(x != fV)=true) (h2:(x != aO)=true) (h3:(x != wNot)=true) (h4:(x != gB)=true):HdOk r (wd x::w):=⟨_,_,rfl,by
 unfold TS wd
 simp only [h1,h2,h3,h4]
 simp⟩
theorem jI {tk:Tk} {x:List UInt8} (w:List UInt8) (h:tk.er=wd x∨tk.er=sg x) (r:List Tk) (e:(x==w)=true):isW w (tk::r)=true:=by rw [eY h,e]
theorem aHQ {tk:Tk} {x:List UInt8} (w:List UInt8) (h:tk.er=wd x∨tk.er=sg x) (r:List Tk) (e:(x==w)=false):¬ isW w (tk::r)=true:=by rw [eY h,e]; decide
section
variable {a:Tm} {ra:Nat} {wa:List Tz}
theorem aEX {i:Nat} {b:Tm} {rb:Nat} {wb:List Tz} (hi:i<7) (ha:gQ a ra wa) (hb:gQ b rb wb):gQ (cD (14+i) [a,b]) 3 (uB 4 ra wa++(tz ((cmpW[i]?).getD [])::uB 4 rb wb)):=by
 obtain ⟨hd,hA⟩:=mI ha (want:=4) (by omega)
 have hd3:HdOk 3 (uB 4 ra wa++(tz ((cmpW[i]?).getD [])::uB 4 rb wb)):=by
  obtain ⟨z,w',e,hz⟩:=hd
  exact HW ⟨z,w',e,FH hz (by omega)⟩
 refine ⟨by omega,hd3,oT (by omega) hd3 fun l rest hl hs=>?_,fun h=>by omega⟩
 obtain ⟨l1,l2,rfl,h1,hl⟩:=eI hl
 obtain ⟨tk,l3,rfl,h2,h3⟩:=aW hl
 have o:(cmpW[i]?).getD [] ∉ lA 4∧cmpW.findIdx? (fun w=>(cmpW[i]?).getD []==w)=some i:=by
  have:i=0∨i=1∨i=2∨i=3∨i=4∨i=5∨i=6:=by omega
  rcases this with rfl | rfl | rfl | rfl | rfl | rfl | rfl <;> decide
 obtain ⟨n1,r1⟩:=hA l1 (tk::(l3++rest)) h1 (aEQ h2 o.1)
 obtain ⟨n2,r2⟩:=(mI hb (want:=4) (by omega)).2 l3 rest h3 (hs.up (zX 3 (by omega) 4 (by omega) (by omega)))
 refine dG (max n1 n2) fun m hm=>?_
 rw [show l1++tk::l3++rest=l1++tk::(l3++rest) from by simp,bA,r1 m (by omega)]
 show (match bN cmpW (tk::(l3++rest)) with
  | some i=>tP (fun b=>cD (14+i) [a,b]) (bA m 4 (tk::(l3++rest)).tail)
  | none=>_)=_
 rw [aEV h2 o.2]
 simp only [List.tail_cons]
 rw [r2 m (by omega)]
 rfl
theorem aHR (ha:gQ a ra wa):gQ (cD 24 [a]) 2 (wd wNot::uB 2 ra wa):=by
 have hd:HdOk 2 (wd wNot::uB 2 ra wa):=⟨_,_,rfl,by unfold TS wd; simp; exact ⟨by decide,by decide⟩⟩
 refine ⟨by omega,hd,oT (by omega) hd fun l rest hl hs=>?_,fun h=>by omega⟩
 obtain ⟨tk,l1,rfl,h1,h2⟩:=aW hl
 obtain ⟨n1,r1⟩:=(mI ha (want:=2) (by omega)).2 l1 rest h2 hs
 refine dG n1 fun m hm=>?_
 rw [List.cons_append,bA,eY (.inl h1),if_pos (by decide),List.tail_cons,r1 m hm]
 rfl
theorem MK (ha:gQ a ra wa) (v:List Tz):HdOk 3 (uB 4 ra wa++v):=by
 obtain ⟨z,w',e,hz⟩:=(mI ha (want:=4) (by omega)).1
 exact HW ⟨z,w',e,FH hz (by omega)⟩
theorem PN (ha:gQ a ra wa) {x:List UInt8} (hx:x=wIs∨x=wIn) {l rest:List Tk} {v:List Tz} (hl:er l=uB 4 ra wa++(wd x::v)) :
  ∃ l1 tk l2,l=l1++tk::l2∧tk.er=wd x∧er l2=v∧∃ n0,∀ m,n0≤m→bA m 4 (l1++tk::(l2++rest))=.ok (a,tk::(l2++rest))∧bN cmpW (tk::(l2++rest))=none:=by
 obtain ⟨l1,l2,rfl,h1,hl⟩:=eI hl
 obtain ⟨tk,l3,rfl,h2,h3⟩:=aW hl
 have hb:x ∉ lA 4:=by rcases hx with rfl | rfl <;> decide
 obtain ⟨n1,r1⟩:=(mI ha (want:=4) (by omega)).2 l1 (tk::(l3++rest)) h1 (HV (.inl h2) hb)
 refine ⟨l1,tk,l3,rfl,h2,h3,n1,fun m hm=>⟨r1 m hm,?_⟩⟩
 rw [rO (.inl h2)]
 rcases hx with rfl | rfl <;> decide
theorem TT (ha:gQ a ra wa):gQ (cD 21 [a]) 3 (uB 4 ra wa++[wd wIs,wd wNull]):=by
 refine ⟨by omega,MK ha _,oT (by omega) (MK ha _) fun l rest hl hs=>?_,fun h=>by omega⟩
 obtain ⟨l1,tk,l2,rfl,h1,h2,n0,hr⟩:=PN ha (.inl rfl) (rest:=rest) hl
 obtain ⟨t2,l3,rfl,h3,h4⟩:=aW h2
 obtain rfl:=eO h4
 refine dG n0 fun m hm=>?_
 obtain ⟨r1,r2⟩:=hr m hm
 rw [show l1++tk::[t2]++rest=l1++tk::([t2]++rest) from by simp,bA,r1]
 show (match bN cmpW (tk::([t2]++rest)) with
  | some i=>_
  | none=>_)=_
 rw [r2]
 simp only [List.tail_cons,List.cons_append,List.nil_append]
 simp only [eY (.inl h1),eY (.inl h3)]
 rfl
theorem TU (ha:gQ a ra wa):gQ (cD 25 [a]) 3 (uB 4 ra wa++[wd wIs,wd wTrue]):=by
 refine ⟨by omega,MK ha _,oT (by omega) (MK ha _) fun l rest hl hs=>?_,fun h=>by omega⟩
 obtain ⟨l1,tk,l2,rfl,h1,h2,n0,hr⟩:=PN ha (.inl rfl) (rest:=rest) hl
 obtain ⟨t2,l3,rfl,h3,h4⟩:=aW h2
 obtain rfl:=eO h4
 refine dG n0 fun m hm=>?_
 obtain ⟨r1,r2⟩:=hr m hm
 rw [show l1++tk::[t2]++rest=l1++tk::([t2]++rest) from by simp,bA,r1]
 show (match bN cmpW (tk::([t2]++rest)) with
  | some i=>_
  | none=>_)=_
 rw [r2]
 simp only [List.tail_cons,List.cons_append,List.nil_append]
 simp only [eY (.inl h1),eY (.inl h3)]
 rfl
def aAV:List Tm→List (List Tz)→Prop
 | [],[]=>True
 | a::ks,w::ws=>(∃ r,gQ a r w)∧aAV ks ws
 | _,_=>False
theorem qX {w:List Tz} {ws:List (List Tz)} (h:ws ≠ []):rN (w::ws)=w++(sg bQ::rN ws):=by
 cases ws with
 | nil=>exact absurd rfl h
 | cons v ws=>rfl
theorem sE:bQ ∉ lA 0∧aY ∉ lA 0∧wThen ∉ lA 0∧wElse ∉ lA 0∧wEnd ∉ lA 0:=by decide
theorem ML:∀ (ks:List Tm) (ws:List (List Tz)),aAV ks ws→ks ≠ []→∀ (l:List Tk) (rest:List Tk) (tc:Tk) (ks0:List Tm),tc.er=sg aY→er l=rN ws →
  ∃ a n0,∃ ks' L,ks=a::ks'∧(∀ m,n0≤m→bA m 0 (l++tc::rest)=.ok (a,L))∧tc::rest <:+ L∧∀ m,n0≤m→∀ k,L.length≤k→fA (bA m 0) k (ks0++[a]) L=.ok (ks0++ks,tc::rest)
 | [],_,_,hn,_,_,_,_,_,_=>absurd rfl hn
 | a::ks,[],hb,_,_,_,_,_,_,_=>hb.elim
 | [a],[w],hb,_,l,rest,tc,ks0,hc,hl=>by
   obtain ⟨⟨r,ha⟩,_⟩:=hb
   obtain ⟨n0,hr⟩:=ha.rd l (tc::rest) hl 0 (Nat.zero_le _) (sD 0 hc rest)
   refine ⟨a,n0,[],tc::rest,rfl,hr,List.suffix_refl _,fun m hm k hk=>?_⟩
   cases k with
   | zero=>rfl
   | succ k=>rw [fA,eY (.inr hc),if_neg (by decide)]
 | a::b::ks,[w],hb,_,_,_,_,_,_,_=>hb.2.elim
 | [a],w::v::ws,hb,_,_,_,_,_,_,_=>hb.2.elim
 | a::b::ks,w::v::ws,hb,_,l,rest,tc,ks0,hc,hl=>by
   obtain ⟨⟨r,ha⟩,hbl⟩:=hb
   rw [qX (by simp)] at hl
   obtain ⟨l1,l2,rfl,h1,hl⟩:=eI hl
   obtain ⟨tk,l3,rfl,h2,h3⟩:=aW hl
   obtain ⟨n0,hr⟩:=ha.rd l1 (tk::(l3++tc::rest)) h1 0 (Nat.zero_le _) (HX 0 sE.1 (.inr h2) _ (by omega))
   obtain ⟨b',n1,ks',L,e,hb1,hsf,hmo⟩:=ML (b::ks) (v::ws) hbl (by simp) l3 rest tc (ks0++[a]) hc h3
   simp only [List.cons.injEq] at e
   obtain ⟨rfl,rfl⟩:=e
   refine ⟨a,max n0 n1,b::ks,tk::(l3++tc::rest),rfl,fun m hm=>?_,?_,fun m hm k hk=>?_⟩
   ·rw [show l1++tk::l3++tc::rest=l1++tk::(l3++tc::rest) from by simp]
    exact hr m (by omega)
   ·exact ⟨tk::l3,by simp⟩
   ·cases k with
    | zero=>simp at hk
    | succ k =>
      have hp:=hb1 m (by omega)
      have hL:L.length≤(l3++tc::rest).length:=qZ (aV m 0 _) hp
      rw [fA,eY (.inr h2),if_pos (by decide),List.tail_cons,hp]
      show fA (bA m 0) k (ks0++[a]++[b]) L=_
      rw [hmo m (by omega) k (by simp at hk hL; omega)]
      simp
theorem aCY {ks:List Tm} {ws:List (List Tz)} (ha:gQ a ra wa) (hk:aAV ks ws) (hn:ks ≠ []):gQ (cD 28 (a::ks)) 3 (uB 4 ra wa++(wd wIn::sg bF::(rN ws++[sg aY]))):=by
 refine ⟨by omega,MK ha _,oT (by omega) (MK ha _) fun l rest hl hs=>?_,fun h=>by omega⟩
 obtain ⟨l1,tk,l2,rfl,h1,h2,n0,hr⟩:=PN ha (.inr rfl) (rest:=rest) hl
 obtain ⟨t2,l3,rfl,h3,h4⟩:=aW h2
 obtain ⟨l4,l5,rfl,h5,h6⟩:=eI h4
 obtain ⟨t5,l6,rfl,h7,h8⟩:=aW h6
 obtain rfl:=eO h8
 obtain ⟨b,n1,ks',L,rfl,hb,hsf,hm⟩:=ML ks ws hk hn l4 rest t5 [a] h7 h5
 refine dG (max n0 n1) fun m hmm=>?_
 obtain ⟨r1,r2⟩:=hr m (by omega)
 rw [show l1++tk::t2::(l4++[t5])++rest=l1++tk::(t2::(l4++[t5])++rest) from by simp,bA,r1]
 show (match bN cmpW (tk::(t2::(l4++[t5])++rest)) with
  | some i=>_
  | none=>_)=_
 rw [r2]
 simp only [List.tail_cons,List.cons_append,List.append_assoc,List.nil_append]
 rw [if_neg (aHQ wIs (.inl h1) _ (by decide)),if_pos (jI wIn (.inl h1) _ (by decide))]
 rw [eL (by rw [eY (.inr h3)]; decide)]
 show aR (bA m 0 (l4++t5::rest)) _=_
 rw [hb m (by omega)]
 show aR (fA (bA m 0) L.length ([a]++[b]) L) _=_
 rw [hm m (by omega) L.length (Nat.le_refl _)]
 show cR (cQ [aY] (t5::rest)) _=_
 rw [eL (by rw [eY (.inr h7)]; decide)]
 rfl
end
theorem Sm.eq_heads (f:Int) (al d s:Bool) (is ft fq fn js w g h ks is' ft' fq' fn' js' w' g' h' ks') :
  (Sm.mk f al d s is ft fq fn js w g h ks).eq (.mk f al d s is' ft' fq' fn' js' w' g' h' ks')=(cE It.eq is is'&&(cE Jo.eq js js'&&(JY ft fq fn ft' fq' fn'&&(cE Tm.eq w w'&&(cE Tm.eq g g'&&(cE Tm.eq h h'&&cE Sm.eq ks ks')))))):=by
 rw [Sm.eq,← JY,lZ,kM ks ks']
 rw [Bool.eq_iff_iff]
 simp
 grind
theorem aAn:∀ (m:Nat) (x y:Sm),SizeOf.sizeOf x<m→x.fits→Cf En 17 [x.a,y.a] [] (.d (.bool (x.eq y))) []
 | 0,_,_,h,_=>absurd h (by omega)
 | m+1,x,y,hm,hfit=>by
   refine cI fQ (fn:=Tryz.f17) rfl ?_
   have hq:=fun (a:Sm) (ha:SizeOf.sizeOf a<m) (fa:a.fits) (b:Sm)=>aAn m a b ha fa
   obtain ⟨f,al,d,s,is,ft,fq,fn,js,w,g,h,ks⟩:=x
   obtain ⟨f',al',d',s',is',ft',fq',fn',js',w',g',h',ks'⟩:=y
   have hfq:∀ a∈fq,SizeOf.sizeOf a<m:=fun a ha=>by
    have:=Sm.q_lt (e:=.mk f al d s is ft fq fn js w g h ks) ha
    omega
   have hks:∀ a∈ks,SizeOf.sizeOf a<m:=fun a ha=>by
    have:=Sm.kid_lt (e:=.mk f al d s is ft fq fn js w g h ks) ha
    omega
   have hjs:∀ j∈js,∀ a∈j.qs,SizeOf.sizeOf a<m:=fun j hj a ha=>by
    have:=Sm.j_lt (e:=.mk f al d s is ft fq fn js w g h ks) hj
    have:=Jo.q_lt ha
    omega
   rw [Sm.fits] at hfit
   obtain ⟨⟨fi1,fi2⟩,⟨fq1,fq2⟩,⟨fj1,fj2⟩,⟨fw1,fw2⟩,⟨fg1,fg2⟩,⟨fh1,fh2⟩,fk1,fk2⟩:=hfit
   by_cases hA:f=f'∧al=al'∧d=d'∧s=s'∧is.length=is'.length∧js.length=js'.length
   ·obtain ⟨rfl,rfl,rfl,rfl,hli,hlj⟩:=hA
    have hli':(is.length:Int)=is'.length:=by omega
    have hlj':(js.length:Int)=js'.length:=by omega
    rw [Sm.eq_heads]
    generalize hR:(cE It.eq is is'&&(cE Jo.eq js js'&&(JY ft fq fn ft' fq' fn'&&(cE Tm.eq w w'&&(cE Tm.eq g g'&&(cE Tm.eq h h'&&cE Sm.eq ks ks'))))))=R
    simp [Sm.a,Sm.c,hli,hlj,aF,aE]
    refine ⟨.ok,.ok,.ok,?_⟩
    refine aL fQ (fun i:Nat=>{ s:=eP [(2,.ptr 2 0 0),(3,.ptr 3 0 0),(5,.d (.int .i64 i))],b:=eG [(2,2,.var (Sm.a (.mk f al d s is ft fq fn js w g h ks)).cells),(3,3,.var (Sm.a (.mk f al d s is' ft' fq' fn' js' w' g' h' ks')).cells)] }) (fun i:Nat=>i≤is'.length∧cE It.eq (is.drop i) (is'.drop i)=cE It.eq is is') (fun i=>is'.length - i) 0 (by simp) (aJ _ _ ⟨by simp,by simp,by simp [aD,Blk.live,Sm.a,Sm.c,aF,aE],by simp⟩ (by simp [aD])) ?_
    rintro i ⟨hi,ho⟩
    by_cases hlt:i<is'.length
    ·have hlt':(i:Int)<is'.length:=by omega
     obtain ⟨x,hg⟩:∃ x,is[i]?=some x:=⟨_,gE (by omega)⟩
     obtain ⟨y,hg2⟩:∃ y,is'[i]?=some y:=⟨_,gE hlt⟩
     have hd:=kL (f:=It.eq) hg hg2
     have hqt:=yK _ x.t y.t (Nat.lt_succ_self _) (pT fi2 (List.mem_of_getElem? hg))
     have he:x.eq y=(x.n==y.n&&x.t.eq y.t):=rfl
     obtain ⟨⟨o0,y0,n0,t0,q0,ks0⟩,nm⟩:=x
     obtain ⟨⟨o1,y1,n1,t1,q1,ks1⟩,nm'⟩:=y
     simp only at he hqt
     have key:cE It.eq is is'=(nm==nm'&&(Tm.mk o0 y0 n0 t0 q0 ks0).eq (Tm.mk o1 y1 n1 t1 q1 ks1)&&cE It.eq (is.drop (i+1)) (is'.drop (i+1))):=by rw [← ho,hd,he]
     clear ho hd he
     have hgi:∀ h,is[i]'h=_:=fun h=>(List.getElem?_eq_some_iff.1 hg).2
     have hgi2:∀ h,is'[i]'h=_:=fun h=>(List.getElem?_eq_some_iff.1 hg2).2
     simp [Sm.a,Sm.c,hli,aF,aE,hlt,hlt',hgi,hgi2,It.c,Tm.c,aS]
     refine ⟨.ok,?_⟩
     (repeat' (first|contradiction|exact .ok|apply And.intro|intro _|(refine gc (fun h=>?_) (fun h=>?_)<;>(have h':=h;(try simp at h');first|done|simp[h,h',hlt,hg,hgi2,It.c,Tm.c,aS]|simp[hlt,hlt',hg,hg2,hgi,hgi2,It.c,Tm.c,aS]))))
     all_goals first | (refine aA hqt (by simp [Tm.a,Tm.c,aS]) ?_; simp; (repeat' (first|contradiction|exact .ok|apply And.intro|intro _|(refine gc (fun h=>?_) (fun h=>?_)<;>(have h':=h;(try simp at h');first|done|simp[h,h']|simp))))) | skip
     all_goals first
      | (refine ⟨i+1,⟨hlt,?_⟩,sM _ [(2,2,_),(3,3,_)] (by simp [aD,Blk.live,aF,aE]) ?_,?_⟩
         ·rw [key]; clear hR key; simp_all
         ·simp [aD]; exact aZ (by omega) (by omega)
         ·simp; omega)
      | (rw [← hR,key]; clear hR key; simp_all)
    ·have hlt':¬ (i:Int)<is'.length:=by omega
     rw [lY (by omega) (by omega)] at ho
     simp [Sm.a,Sm.c,hli,aF,aE,hlt,hlt']
     refine ⟨.ok,.ok,?_⟩
     refine aL fQ (fun i:Nat=>{ s:=eP [(2,.ptr 2 0 0),(3,.ptr 3 0 0),(6,.d (.int .i64 i))],b:=eG [(2,2,.var (Sm.a (.mk f al d s is ft fq fn js w g h ks)).cells),(3,3,.var (Sm.a (.mk f al d s is' ft' fq' fn' js' w' g' h' ks')).cells)] }) (fun i:Nat=>i≤js'.length∧cE Jo.eq (js.drop i) (js'.drop i)=cE Jo.eq js js') (fun i=>js'.length - i) 0 (by simp) (sM _ [(2,2,_),(3,3,_)] (by simp [aD,Blk.live,Sm.a,Sm.c,aF,aE]) (by simp [aD])) ?_
     clear hi hlt hlt' i
     rintro i ⟨hi,hj⟩
     by_cases hlt:i<js'.length
     ·have hlt':(i:Int)<js'.length:=by omega
      obtain ⟨x,hg⟩:∃ x,js[i]?=some x:=⟨_,gE (by omega)⟩
      obtain ⟨y,hg2⟩:∃ y,js'[i]?=some y:=⟨_,gE hlt⟩
      have hd:=kL (f:=Jo.eq) hg hg2
      have hx:=jB _ fj2 x (List.mem_of_getElem? hg)
      have hxq:=hjs x (List.mem_of_getElem? hg)
      obtain ⟨k0,t0,q0,n0,o0⟩:=x
      obtain ⟨k1,t1,q1,n1,o1⟩:=y
      rw [Jo.fits] at hx
      have e1:=AR t0 q0 n0 t1 q1 n1 hx.1.1 fun a ha b _=>hq a (hxq a ha) (dB _ hx.1.2 a ha) b
      have e2:=AS o0 o1 hx.2.1 hx.2.2
      have key:cE Jo.eq js js'=(k0==k1&&(JY t0 q0 n0 t1 q1 n1&&cE Tm.eq o0 o1)&&cE Jo.eq (js.drop (i+1)) (js'.drop (i+1))):=by rw [← hj,hd,Jo.eq,JY]
      clear hj hd
      have hgi:∀ h,js[i]'h=_:=fun h=>(List.getElem?_eq_some_iff.1 hg).2
      have hgi2:∀ h,js'[i]'h=_:=fun h=>(List.getElem?_eq_some_iff.1 hg2).2
      simp [Sm.a,Sm.c,hlj,aF,aE,hlt,hlt',hgi,hgi2,Jo.c]
      refine ⟨.ok,?_⟩
      (repeat' (first|contradiction|exact .ok|apply And.intro|intro _|(refine gc (fun h=>?_) (fun h=>?_)<;>(have h':=h;(try simp at h');first|done|simp[h,h',hlt,hg,hgi2,Jo.c,aE]|simp[hlt,hlt',hg,hg2,hgi,hgi2,Jo.c,aF,aE]))))
      all_goals first | (refine aA e1 (by simp [jJ,kK,aE]) ?_; simp; (repeat' (first | contradiction | exact .of (by kernel_rfl) | refine And.intro ?_ ?_ | intro _ | (refine aI (fun h=>?_) (fun h=>?_) <;> (have h':=h; (try simp at h'); first | done | simp [h',hlt,hg,hgi2,Jo.c,aE] | simp [hlt,hlt',hg,hg2,hgi,hgi2,Jo.c,aF,aE]))))) | skip
      all_goals first | (refine aP e2 ?_; simp; (repeat' (first|contradiction|exact .ok|apply And.intro|intro _|(refine gc (fun h=>?_) (fun h=>?_)<;>(have h':=h;(try simp at h');first|done|simp[h,h',hlt,hlt',hg,hg2,hgi,hgi2,Jo.c,aF,aE]|simp[hlt,hlt',hg,hg2,hgi,hgi2,Jo.c,aF,aE]))))) | skip
      all_goals first
       | (refine ⟨i+1,⟨hlt,?_⟩,sM _ [(2,2,_),(3,3,_)] (by simp [aD,Blk.live,aF,aE]) ?_,?_⟩
          ·rw [key]; clear hR key; simp_all
          ·simp [aD]; exact aZ (by omega) (by omega)
          ·simp; omega)
       | (rw [← hR,key]; clear hR key; simp_all)
     ·have hlt':¬ (i:Int)<js'.length:=by omega
      rw [lY (by omega) (by omega)] at hj
      have e1:=AR ft fq fn ft' fq' fn' fq1 fun a ha b _=>hq a (hfq a ha) (dB _ fq2 a ha) b
      have e4:=AS w w' fw1 fw2
      have e5:=AS g g' fg1 fg2
      have e6:=AS h h' fh1 fh2
      have e7:=sQ ks ks' fk1 fun a ha b _=>hq a (hks a ha) (dB _ fk2 a ha) b
      rw [← ho,← hj] at hR
      clear ho hj hlt
      simp [Sm.a,Sm.c,hlj,aF,aE,hlt']
      refine ⟨.ok,?_⟩
      refine aA e1 (by simp [jJ,kK,aE]) ?_
      simp
      (repeat' (first|contradiction|exact .ok|apply And.intro|intro _|(refine gc (fun h=>?_) (fun h=>?_)<;>(have h':=h;(try simp at h');first|done|simp[h]|simp[aF,aE]))))
      all_goals first | (refine aP e4 ?_; simp; (repeat' (first | contradiction | exact .of (by kernel_rfl) | refine And.intro ?_ ?_ | intro _ | (refine aI (fun h=>?_) (fun h=>?_) <;> (have h':=h; (try simp at h'); first | done | simp [h] | simp [aF,aE]))))) | skip
      all_goals first | (refine aP e5 ?_; simp; (repeat' (first | contradiction | exact .of (by kernel_rfl) | refine And.intro ?_ ?_ | intro _ | (refine aI (fun h=>?_) (fun h=>?_) <;> (have h':=h; (try simp at h'); first | done | simp [h] | simp [aF,aE]))))) | skip
      all_goals first | (refine aP e6 ?_; simp; (repeat' (first | contradiction | exact .of (by kernel_rfl) | refine And.intro ?_ ?_ | intro _ | (refine aI (fun h=>?_) (fun h=>?_) <;> (have h':=h; (try simp at h'); first | done | simp [h] | simp [aF,aE]))))) | skip
      all_goals first | (refine aP e7 ?_; simp; (repeat' (first|contradiction|exact .ok|apply And.intro|intro _|(refine gc (fun h=>?_) (fun h=>?_)<;>(have h':=h;(try simp at h');first|done|simp[h,h',aF,aE]|simp[aF,aE]))))) | skip
      all_goals (rw [← hR]; clear hR; simp_all)
   ·have hF:(Sm.mk f al d s is ft fq fn js w g h ks).eq (.mk f' al' d' s' is' ft' fq' fn' js' w' g' h' ks')=false:=by
     cases hE:(Sm.mk f al d s is ft fq fn js w g h ks).eq (.mk f' al' d' s' is' ft' fq' fn' js' w' g' h' ks') with
     | false=>rfl
     | true =>
       rw [Sm.eq,lZ] at hE
       simp only [Bool.and_eq_true,beq_iff_eq] at hE
       refine absurd ⟨hE.1,hE.2.1,hE.2.2.1,hE.2.2.2.1,?_,?_⟩ hA
       ·exact Classical.byContradiction fun hc=>by rw [kT _ _ hc] at hE; simp at hE
       ·exact Classical.byContradiction fun hc=>by rw [kT js js' hc] at hE; simp at hE
    rw [hF]
    clear hF hq hfq hks hjs
    simp [Sm.a,Sm.c,aF,aE]
    (repeat' (first|contradiction|exact .ok|apply And.intro|intro _|(refine gc (fun h=>?_) (fun h=>?_)<;>(have h':=h;(try simp at h');first|done|simp[h,h']|simp[aF,aE]))))
    all_goals (exfalso; apply hA; simp_all; omega)
end Go.Proofs.Tryz
