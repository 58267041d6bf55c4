import Derived.Test.YthpmjipkofbeiaaGreatDoorURqt
set_option linter.all false
namespace Go.Proofs.Tryz
open Go.Ab
set_option maxRecDepth 100000
set_option maxHeartbeats 8000000
def aCZ (z:Tz):Bool:=z.1==2&&z.2.1 != [48]
theorem TV {l:List Tk} {z:Tz} {w:List Tz} (h:er l=z::w) (rest:List Tk):oM (l++rest)=aCZ z:=by
 obtain ⟨t,l2,rfl,ht,_⟩:=aW h
 unfold Tk.er at ht
 subst ht
 rfl
theorem aDa {a:Tm} {ra:Nat} {wa:List Tz} (h:WT a ra wa) (hr:6≤ra) (hp:PL a=false):∀ z w',wa=z::w'→aCZ z=false:=by
 intro z w' e
 cases h with
 | chn h _ _ _=>omega
 | cmp=>omega
 | no=>omega
 | isNull=>omega
 | isTrue=>omega
 | isIn=>omega
 | int h0 hw =>
   rename_i n w
   simp only [PL,beq_self_eq_true,Bool.true_and,decide_eq_false_iff_not] at hp
   have:n=0:=by omega
   simp only [List.cons.injEq] at e
   obtain ⟨rfl,_⟩:=e
   rw [hw this]
   rfl
 | agg hn ha =>
   unfold aET at e
   split at e
   ·simp only [List.cons_append,List.cons.injEq] at e; obtain ⟨rfl,_⟩:=e; rfl
   ·split at e
    ·simp only [List.cons_append,List.cons.injEq] at e; obtain ⟨rfl,_⟩:=e; rfl
    ·split at e
     ·simp only [List.cons_append,List.cons.injEq] at e; obtain ⟨rfl,_⟩:=e; rfl
     ·split at e
      ·simp only [List.cons_append,List.cons.injEq] at e; obtain ⟨rfl,_⟩:=e; rfl
      ·simp only [List.cons_append,List.cons.injEq] at e; obtain ⟨rfl,_⟩:=e; rfl
 | negP=>simp only [List.cons.injEq] at e; obtain ⟨rfl,_⟩:=e; rfl
 | neg=>simp only [List.cons.injEq] at e; obtain ⟨rfl,_⟩:=e; rfl
 | len=>simp only [List.cons.injEq] at e; obtain ⟨rfl,_⟩:=e; rfl
 | coal=>simp only [List.cons.injEq] at e; obtain ⟨rfl,_⟩:=e; rfl
 | case=>simp only [List.cons.injEq] at e; obtain ⟨rfl,_⟩:=e; rfl
 | rows=>simp only [List.cons.injEq] at e; obtain ⟨rfl,_⟩:=e; rfl
 | null=>simp only [List.cons.injEq] at e; obtain ⟨rfl,_⟩:=e; rfl
 | intN=>simp only [List.cons.injEq] at e; obtain ⟨rfl,_⟩:=e; rfl
 | tru=>simp only [List.cons.injEq] at e; obtain ⟨rfl,_⟩:=e; rfl
 | fls=>simp only [List.cons.injEq] at e; obtain ⟨rfl,_⟩:=e; rfl
 | text=>simp only [List.cons.injEq] at e; obtain ⟨rfl,_⟩:=e; rfl
 | name=>simp only [List.cons.injEq] at e; obtain ⟨rfl,_⟩:=e; rfl
 | qual=>simp only [List.cons.injEq] at e; obtain ⟨rfl,_⟩:=e; rfl
theorem zY {w:List Tz}:HdOk 6 (sg gB::w):=⟨_,_,rfl,by decide⟩
section
variable {a:Tm} {ra:Nat} {wa:List Tz}
theorem aEY {w:List Tz} (hr:∀ l rest,er l=w→Stp 6 rest→Reads 6 (l++rest) a rest) (hn:∀ z w',w=z::w'→aCZ z=false) (hne:w ≠ []):gQ (cD 11 [a]) 6 (sg gB::w):=by
 refine ⟨by omega,zY,oT (by omega) zY fun l rest hl hs=>?_,fun h=>by omega⟩
 obtain ⟨tk,l1,rfl,h1,h2⟩:=aW hl
 obtain ⟨n0,h⟩:=hr l1 rest h2 hs
 obtain ⟨z,w',e⟩:=List.exists_cons_of_ne_nil hne
 have hnum:=TV (h2.trans e) rest
 rw [hn z w' e] at hnum
 refine dG n0 fun m hm=>?_
 rw [List.cons_append,bA,if_pos (jI gB (.inr h1) _ (by decide)),List.tail_cons,hnum,if_neg (by decide),h m hm]
 rfl
theorem aDb (ha:gQ a ra wa):gQ (cD 11 [a]) 6 (sg gB::sg bF::(wa++[sg aY])):=by
 refine aEY (fun l rest hl hs=>?_) (fun z w' e=>by simp only [List.cons.injEq] at e; obtain ⟨rfl,_⟩:=e; rfl) (by simp)
 obtain ⟨_,_,_,h4⟩:=(PM (r:=7) (wa:=wa++[sg aY])).isW hl rest
 exact pR 1 7 6 (by omega) (by omega) (CE ha hl rest) hs (fun h=>by omega) (fun _ _=>h4 (by omega))
theorem aEZ (ha:gQ a ra wa) (hn:6≤ra→∀ z w',wa=z::w'→aCZ z=false):gQ (cD 11 [a]) 6 (sg gB::uB 6 ra wa):=by
 obtain ⟨hd,hr⟩:=mI ha (want:=6) (by omega)
 refine aEY hr (fun z w' e=>?_) (fun e=>by obtain ⟨z,w',e',_⟩:=hd; rw [e] at e'; cases e')
 unfold uB at e
 split at e
 ·simp only [List.cons.injEq] at e; obtain ⟨rfl,_⟩:=e; rfl
 ·exact hn (by omega) z w' e
theorem sF {t:Tm} {w:List Tz} (hd:HdOk 7 w) (h:∀ l rest,er l=w→Stp 7 rest→Reads 7 (l++rest) t rest):gQ t 7 w:=⟨by omega,hd,oT (by omega) hd h,fun h=>by omega⟩
theorem aMD {p:List Tk→cY Tm} {t2 t3:Tk} {L rest:List Tk} (h2:t2.er=sg bF) (h3:t3.er=sg aY) (hp:p L=.ok (a,t3::rest)):kG p 0 (t2::L)=.ok ([a],rest):=by
 unfold kG
 rw [eL (jI bF (.inr h2) _ (by decide))]
 show aR (p L) _=_
 rw [hp]
 show cR (cQ [aY] (t3::rest)) _=_
 rw [eL (jI aY (.inr h3) _ (by decide))]
 rfl
theorem aME {b:Tm} {p:List Tk→cY Tm} {t2 t3 t4:Tk} {L L2 rest:List Tk} (h2:t2.er=sg bF) (h3:t3.er=sg bQ) (h4:t4.er=sg aY) (hp:p L=.ok (a,t3::L2)) (hq:p L2=.ok (b,t4::rest)):kG p 1 (t2::L)=.ok ([a,b],rest):=by
 unfold kG
 rw [eL (jI bF (.inr h2) _ (by decide))]
 show aR (p L) _=_
 rw [hp]
 show aR (kV p 1 [a] (t3::L2)) _=_
 have e:kV p 1 [a] (t3::L2)=.ok ([a,b],t4::rest):=by
  rw [kV,eL (jI bQ (.inr h3) _ (by decide))]
  show aR (p L2) _=_
  rw [hq]
  rfl
 rw [e]
 show cR (cQ [aY] (t4::rest)) _=_
 rw [eL (jI aY (.inr h4) _ (by decide))]
 rfl
theorem aFa (ha:gQ a ra wa):gQ (cD 13 [a]) 7 (wd wLength::sg bF::(wa++[sg aY])):=by
 refine sF (vD _ (by decide) (by decide) (by decide) (by decide)) fun l rest hl hs=>?_
 obtain ⟨t1,l1,rfl,h1,hl⟩:=aW hl
 obtain ⟨t2,l2,rfl,h2,hl⟩:=aW hl
 obtain ⟨l3,l4,rfl,h3,hl⟩:=eI hl
 obtain ⟨t4,l5,rfl,h4,hl⟩:=aW hl
 obtain rfl:=eO hl
 obtain ⟨n0,hr⟩:=ha.rd l3 (t4::rest) h3 0 (Nat.zero_le _) (sD 0 h4 rest)
 obtain ⟨k2,k3⟩:=vC (.inl h1)
 refine dG n0 fun m hm=>?_
 rw [show t1::t2::(l3++[t4])++rest=t1::t2::(l3++t4::rest) from by simp,bA,if_neg k2,if_neg k3]
 simp only [eY (.inl h1),aMD h2 h4 (hr m hm)]
 rfl
theorem aDc {b:Tm} {rb:Nat} {wb:List Tz} (ha:gQ a ra wa) (hb:gQ b rb wb):gQ (cD 27 [a,b]) 7 (wd wCoalesce::sg bF::(wa++(sg bQ::(wb++[sg aY])))):=by
 refine sF (vD _ (by decide) (by decide) (by decide) (by decide)) fun l rest hl hs=>?_
 obtain ⟨t1,l1,rfl,h1,hl⟩:=aW hl
 obtain ⟨t2,l2,rfl,h2,hl⟩:=aW hl
 obtain ⟨l3,l4,rfl,h3,hl⟩:=eI hl
 obtain ⟨t4,l5,rfl,h4,hl⟩:=aW hl
 obtain ⟨l6,l7,rfl,h6,hl⟩:=eI hl
 obtain ⟨t7,l8,rfl,h7,hl⟩:=aW hl
 obtain rfl:=eO hl
 obtain ⟨n0,hr⟩:=ha.rd l3 (t4::(l6++t7::rest)) h3 0 (Nat.zero_le _) (HX 0 sE.1 (.inr h4) _ (by omega))
 obtain ⟨n1,hr2⟩:=hb.rd l6 (t7::rest) h6 0 (Nat.zero_le _) (sD 0 h7 rest)
 obtain ⟨k2,k3⟩:=vC (.inl h1)
 refine dG (max n0 n1) fun m hm=>?_
 rw [show t1::t2::(l3++t4::(l6++[t7]))++rest=t1::t2::(l3++t4::(l6++t7::rest)) from by simp,bA,if_neg k2,if_neg k3]
 simp only [eY (.inl h1),aME h2 h4 h7 (hr m (by omega)) (hr2 m (by omega))]
 rfl
theorem aDd {b c:Tm} {rb rc:Nat} {wb wc:List Tz} (ha:gQ a ra wa) (hb:gQ b rb wb) (hc:gQ c rc wc) :
  gQ (cD 26 [a,b,c]) 7 (wd wCase::wd wWhen::(wa++(wd wThen::(wb++(wd wElse::(wc++[wd wEnd])))))):=by
 refine sF (vD _ (by decide) (by decide) (by decide) (by decide)) fun l rest hl hs=>?_
 obtain ⟨t1,l1,rfl,h1,hl⟩:=aW hl
 obtain ⟨t2,l2,rfl,h2,hl⟩:=aW hl
 obtain ⟨l3,l4,rfl,h3,hl⟩:=eI hl
 obtain ⟨t4,l5,rfl,h4,hl⟩:=aW hl
 obtain ⟨l6,l7,rfl,h6,hl⟩:=eI hl
 obtain ⟨t7,l8,rfl,h7,hl⟩:=aW hl
 obtain ⟨l9,l10,rfl,h9,hl⟩:=eI hl
 obtain ⟨t10,l11,rfl,h10,hl⟩:=aW hl
 obtain rfl:=eO hl
 obtain ⟨n0,hr⟩:=ha.rd l3 (t4::(l6++t7::(l9++t10::rest))) h3 0 (Nat.zero_le _) (HX 0 sE.2.2.1 (.inl h4) _ (by omega))
 obtain ⟨n1,hr2⟩:=hb.rd l6 (t7::(l9++t10::rest)) h6 0 (Nat.zero_le _) (HX 0 sE.2.2.2.1 (.inl h7) _ (by omega))
 obtain ⟨n2,hr3⟩:=hc.rd l9 (t10::rest) h9 0 (Nat.zero_le _) (HX 0 sE.2.2.2.2 (.inl h10) _ (by omega))
 obtain ⟨k2,k3⟩:=vC (.inl h1)
 refine dG (max n0 (max n1 n2)) fun m hm=>?_
 have e:jP (bA m 0) [wWhen,wThen,wElse] [] (t2::(l3++t4::(l6++t7::(l9++t10::rest))))=.ok ([a,b,c],t10::rest):=by
  rw [jP,eL (jI wWhen (.inl h2) _ (by decide))]
  show aR (bA m 0 (l3++t4::(l6++t7::(l9++t10::rest)))) _=_
  rw [hr m (by omega)]
  show jP (bA m 0) [wThen,wElse] ([]++[a]) (t4::(l6++t7::(l9++t10::rest)))=_
  rw [jP,eL (jI wThen (.inl h4) _ (by decide))]
  show aR (bA m 0 (l6++t7::(l9++t10::rest))) _=_
  rw [hr2 m (by omega)]
  show jP (bA m 0) [wElse] ([]++[a]++[b]) (t7::(l9++t10::rest))=_
  rw [jP,eL (jI wElse (.inl h7) _ (by decide))]
  show aR (bA m 0 (l9++t10::rest)) _=_
  rw [hr3 m (by omega)]
  rfl
 rw [show t1::t2::(l3++t4::(l6++t7::(l9++[t10])))++rest=t1::t2::(l3++t4::(l6++t7::(l9++t10::rest))) from by simp,bA,if_neg k2,if_neg k3]
 simp only [eY (.inl h1),e]
 show cR (cQ [wEnd] (t10::rest)) _=_
 rw [eL (jI wEnd (.inl h10) _ (by decide))]
 rfl
theorem aDe:gQ (.mk 41 0 1 [] [] []) 7 [wd wCount,sg bF,sg fV,sg aY]:=by
 refine sF (vD _ (by decide) (by decide) (by decide) (by decide)) fun l rest hl hs=>?_
 obtain ⟨t1,l1,rfl,h1,hl⟩:=aW hl
 obtain ⟨t2,l2,rfl,h2,hl⟩:=aW hl
 obtain ⟨t3,l3,rfl,h3,hl⟩:=aW hl
 obtain ⟨t4,l4,rfl,h4,hl⟩:=aW hl
 obtain rfl:=eO hl
 obtain ⟨k2,k3⟩:=vC (.inl h1)
 refine dG 0 fun m _=>?_
 have ho:bN aggW (t1::t2::t3::t4::rest)=some 0:=(rO (.inl h1) _).trans (by decide)
 have e:oA (bA m 0) 0 (t2::t3::t4::rest)=.ok (.mk 41 0 1 [] [] [],rest):=by
  unfold oA
  rw [eL (jI bF (.inr h2) _ (by decide))]
  show (if (0=0∧isW fV (t3::t4::rest)=true) then cR (cQ [aY] (t4::rest)) _ else _)=_
  rw [if_pos ⟨rfl,jI fV (.inr h3) _ (by decide)⟩,eL (jI aY (.inr h4) _ (by decide))]
  rfl
 rw [show [t1,t2,t3,t4]++rest=t1::t2::t3::t4::rest from rfl,bA,if_neg k2,if_neg k3]
 simp only [eY (.inl h1),ho,e]
 rfl
theorem aFb {n:Int} (hn:2≤n∧n≤6) (ha:gQ a ra wa):gQ (.mk 41 0 n [] [] [a]) 7 (aET n++(wa++[sg aY])):=by
 have plain:∀ (i:Nat) (x:List UInt8),(x=wCount∧i=0∨x=IM∧i=1∨x=IN∧i=2∨x=IO∧i=3)→gQ (.mk 41 0 (AF i) [] [] [a]) 7 (wd x::sg bF::(wa++[sg aY])):=by
  intro i x hx
  have hx2:(x != fV)=true∧(x != aO)=true∧(x != wNot)=true∧(x != gB)=true∧aggW.findIdx? (fun w=>x==w)=some i∧∀ w∈[wTrue,wFalse,wNull,bF,wLength,wCoalesce,wCase],(x==w)=false:=by
   rcases hx with ⟨rfl,rfl⟩ | ⟨rfl,rfl⟩ | ⟨rfl,rfl⟩ | ⟨rfl,rfl⟩ <;> decide
  obtain ⟨x1,x2,x3,x4,x5,x6⟩:=hx2
  refine sF (vD _ x1 x2 x3 x4) fun l rest hl hs=>?_
  obtain ⟨t1,l1,rfl,h1,hl⟩:=aW hl
  obtain ⟨t2,l2,rfl,h2,hl⟩:=aW hl
  obtain ⟨l3,l4,rfl,h3,hl⟩:=eI hl
  obtain ⟨t4,l5,rfl,h4,hl⟩:=aW hl
  obtain rfl:=eO hl
  obtain ⟨n0,hr⟩:=ha.rd l3 (t4::rest) h3 0 (Nat.zero_le _) (sD 0 h4 rest)
  obtain ⟨q1,q2,_,_⟩:=ha.hd.isW h3 (t4::rest)
  obtain ⟨k2,k3⟩:=vC (.inl h1)
  refine dG n0 fun m hm=>?_
  have ho:bN aggW (t1::t2::(l3++t4::rest))=some i:=(rO (.inl h1) _).trans x5
  have e:oA (bA m 0) i (t2::(l3++t4::rest))=.ok (.mk 41 0 (AF i) [] [] [a],rest):=by
   unfold oA
   rw [eL (jI bF (.inr h2) _ (by decide))]
   show (if (i=0∧isW fV (l3++t4::rest)=true) then _ else if (i=0∧isW aO (l3++t4::rest)=true) then _ else aR (bA m 0 (l3++t4::rest)) _)=_
   rw [if_neg (fun h=>by rw [q1] at h; cases h.2),if_neg (fun h=>by rw [q2] at h; cases h.2),hr m hm]
   show cR (cQ [aY] (t4::rest)) _=_
   rw [eL (jI aY (.inr h4) _ (by decide))]
   rfl
  have z:=fun w hw=>x6 w hw
  rw [show t1::t2::(l3++[t4])++rest=t1::t2::(l3++t4::rest) from by simp,bA,if_neg k2,if_neg k3]
  simp only [eY (.inl h1),z wTrue (by simp),z wFalse (by simp),z wNull (by simp),z bF (by simp),z wLength (by simp),z wCoalesce (by simp),z wCase (by simp),ho,e]
  rfl
 have:n=2∨n=3∨n=4∨n=5∨n=6:=by omega
 rcases this with rfl | rfl | rfl | rfl | rfl
 ·exact plain 0 wCount (.inl ⟨rfl,rfl⟩)
 ·-- count(distinct ..)
  rw [show aET 3++(wa++[sg aY])=wd wCount::sg bF::wd aO::(wa++[sg aY]) from rfl]
  refine sF (vD _ (by decide) (by decide) (by decide) (by decide)) fun l rest hl hs=>?_
  obtain ⟨t1,l1,rfl,h1,hl⟩:=aW hl
  obtain ⟨t2,l2,rfl,h2,hl⟩:=aW hl
  obtain ⟨t3,l2,rfl,h0,hl⟩:=aW hl
  obtain ⟨l3,l4,rfl,h3,hl⟩:=eI hl
  obtain ⟨t4,l5,rfl,h4,hl⟩:=aW hl
  obtain rfl:=eO hl
  obtain ⟨n0,hr⟩:=ha.rd l3 (t4::rest) h3 0 (Nat.zero_le _) (sD 0 h4 rest)
  obtain ⟨k2,k3⟩:=vC (.inl h1)
  refine dG n0 fun m hm=>?_
  have ho:bN aggW (t1::t2::t3::(l3++t4::rest))=some 0:=(rO (.inl h1) _).trans (by decide)
  have e:oA (bA m 0) 0 (t2::t3::(l3++t4::rest))=.ok (.mk 41 0 3 [] [] [a],rest):=by
   unfold oA
   rw [eL (jI bF (.inr h2) _ (by decide))]
   show (if (0=0∧isW fV (t3::(l3++t4::rest))=true) then _ else if (0=0∧isW aO (t3::(l3++t4::rest))=true) then aR (bA m 0 (l3++t4::rest)) _ else _)=_
   rw [if_neg (fun h=>absurd h.2 (aHQ fV (.inl h0) _ (by decide))),if_pos ⟨rfl,jI aO (.inl h0) _ (by decide)⟩,hr m hm]
   show cR (cQ [aY] (t4::rest)) _=_
   rw [eL (jI aY (.inr h4) _ (by decide))]
   rfl
  rw [show t1::t2::t3::(l3++[t4])++rest=t1::t2::t3::(l3++t4::rest) from by simp,bA,if_neg k2,if_neg k3]
  simp only [eY (.inl h1),ho,e]
  rfl
 ·exact plain 1 IM (.inr (.inl ⟨rfl,rfl⟩))
 ·exact plain 2 IN (.inr (.inr (.inl ⟨rfl,rfl⟩)))
 ·exact plain 3 IO (.inr (.inr (.inr ⟨rfl,rfl⟩)))
theorem aDf {y:Int} (hy:1≤y∧y≤3):gQ (.mk 1 y 0 [] [] []) 7 [wd wNull,wd (TR y)]:=by
 refine sF (vD _ (by decide) (by decide) (by decide) (by decide)) fun l rest hl hs=>?_
 obtain ⟨t1,l1,rfl,h1,hl⟩:=aW hl
 obtain ⟨t2,l2,rfl,h2,hl⟩:=aW hl
 obtain rfl:=eO hl
 obtain ⟨k2,k3⟩:=vC (.inl h1)
 refine dG 0 fun m _=>?_
 obtain ⟨i,hi,ho⟩:∃ i:Nat,(1+i:Int)=y∧[EQ,uD,uE].findIdx? (fun w=>TR y==w)=some i:=by
  have:y=1∨y=2∨y=3:=by omega
  rcases this with rfl | rfl | rfl
  ·exact ⟨0,by decide,by decide⟩
  ·exact ⟨1,by decide,by decide⟩
  ·exact ⟨2,by decide,by decide⟩
 have e:bN [EQ,uD,uE] (t2::rest)=some i:=(rO (.inl h2) _).trans ho
 rw [show [t1,t2]++rest=t1::t2::rest from rfl,bA,if_neg k2,if_neg k3]
 simp only [eY (.inl h1),e,List.tail_cons]
 rw [← hi]
 rfl
theorem aFc:gQ (.mk 3 0 1 [] [] []) 7 [wd wTrue]:=by
 refine sF (vD _ (by decide) (by decide) (by decide) (by decide)) fun l rest hl hs=>?_
 obtain ⟨t1,l1,rfl,h1,hl⟩:=aW hl
 obtain rfl:=eO hl
 obtain ⟨k2,k3⟩:=vC (.inl h1)
 refine dG 0 fun m _=>?_
 rw [show [t1]++rest=t1::rest from rfl,bA,if_neg k2,if_neg k3]
 simp only [eY (.inl h1)]
 rfl
theorem aFd:gQ (cD 3 []) 7 [wd wFalse]:=by
 refine sF (vD _ (by decide) (by decide) (by decide) (by decide)) fun l rest hl hs=>?_
 obtain ⟨t1,l1,rfl,h1,hl⟩:=aW hl
 obtain rfl:=eO hl
 obtain ⟨k2,k3⟩:=vC (.inl h1)
 refine dG 0 fun m _=>?_
 rw [show [t1]++rest=t1::rest from rfl,bA,if_neg k2,if_neg k3]
 simp only [eY (.inl h1)]
 rfl
theorem aFe {n:Int} {w:List UInt8}:gQ (.mk 2 0 n [] [] []) 7 [(2,w,w,n)]:=by
 refine sF ⟨_,_,rfl,rfl⟩ fun l rest hl hs=>?_
 obtain ⟨t1,l1,rfl,h1,hl⟩:=aW hl
 obtain rfl:=eO hl
 unfold Tk.er at h1
 simp only [Prod.mk.injEq] at h1
 obtain ⟨e1,e2,e3,e4⟩:=h1
 refine dG 0 fun m _=>?_
 rw [show [t1]++rest=t1::rest from rfl,bA,if_pos e1,e4]
theorem aDg {t w:List UInt8}:gQ (.mk 4 0 0 t [] []) 7 [(3,w,t,0)]:=by
 refine sF ⟨_,_,rfl,rfl⟩ fun l rest hl hs=>?_
 obtain ⟨t1,l1,rfl,h1,hl⟩:=aW hl
 obtain rfl:=eO hl
 unfold Tk.er at h1
 simp only [Prod.mk.injEq] at h1
 obtain ⟨e1,e2,e3,e4⟩:=h1
 refine dG 0 fun m _=>?_
 rw [show [t1]++rest=t1::rest from rfl,bA,if_neg (by omega),if_pos e1,e3]
theorem aDh {n:Int} {w:List UInt8} (h0:n<0) (h1:-1000000000000≤n) (hw:w ≠ [48]):gQ (.mk 2 0 n [] [] []) 6 [sg gB,(2,w,w,-n)]:=by
 refine ⟨by omega,zY,oT (by omega) zY fun l rest hl hs=>?_,fun h=>by omega⟩
 obtain ⟨tk,l1,rfl,h2,hl⟩:=aW hl
 have hnum:=TV hl rest
 obtain ⟨t1,l2,rfl,h3,hl⟩:=aW hl
 obtain rfl:=eO hl
 unfold Tk.er at h3
 simp only [Prod.mk.injEq] at h3
 obtain ⟨e1,e2,e3,e4⟩:=h3
 have hn:aCZ ((2:Int),w,w,-n)=true:=by unfold aCZ; simpa using hw
 rw [hn] at hnum
 refine dG 0 fun m _=>?_
 rw [show [tk,t1]++rest=tk::([t1]++rest) from rfl,bA,if_pos (jI gB (.inr h2) _ (by decide)),List.tail_cons,if_pos hnum]
 show Except.ok (Tm.mk 2 0 (IntKind.i64.wrap (-t1.n)) [] [] [],rest)=_
 rw [e4,Int.neg_neg,aZ (by omega) (by omega)]
theorem aAW {t:List UInt8} (ht:bP jZ t=true):(t != fV)=true∧(t != aO)=true∧(t != wNot)=true∧(t != gB)=true:=by
 have h:∀ w,bP jZ w=false→(t != w)=true:=fun w hw=>by
  rw [bne_iff_ne]
  rintro rfl
  rw [ht] at hw; cases hw
 exact ⟨h _ (by decide),h _ (by decide),h _ (by decide),h _ (by decide)⟩
theorem MM {t:List UInt8} (ht:bP jZ t=true) {tk:Tk} (h:tk.er=wd t) (L:List Tk) (m:Nat):bA (m+1) 7 (tk::L) =
  if isW qJ L=true then aR (gJ L.tail) fun b l2=>.ok (.mk 40 0 0 b t [],l2) else .ok (.mk 40 0 0 t [] [],L):=by
 obtain ⟨k2,k3⟩:=vC (.inl h)
 have h':=h
 unfold Tk.er wd at h'
 simp only [Prod.mk.injEq] at h'
 obtain ⟨e1,e2,_⟩:=h'
 have q:∀ w,bP jZ w=false→isW w (tk::L)=false:=fun w hw=>UV hw (by simp only [eU]; rw [e2]; exact ht)
 have ha:bN aggW (tk::L)=none:=by
  unfold bN aggW
  simp [List.findIdx?_cons,q wCount (by decide),q IM (by decide),q IN (by decide),q IO (by decide)]
 have hn:gJ (tk::L)=.ok (t,L):=by
  unfold gJ
  simp only
  rw [e2,if_pos ⟨e1,ht⟩]
 rw [bA,if_neg k2,if_neg k3]
 simp only [q wTrue (by decide),q wFalse (by decide),q wNull (by decide),q bF (by decide),q wLength (by decide),q wCoalesce (by decide),q wCase (by decide),ha,hn]
 rfl
theorem aDi {t:List UInt8} (ht:bP jZ t=true):gQ (.mk 40 0 0 t [] []) 7 [wd t]:=by
 obtain ⟨n1,n2,n3,n4⟩:=aAW ht
 refine sF (vD _ n1 n2 n3 n4) fun l rest hl hs=>?_
 obtain ⟨t1,l1,rfl,h1,hl⟩:=aW hl
 obtain rfl:=eO hl
 refine dG 0 fun m _=>?_
 rw [show [t1]++rest=t1::rest from rfl,MM ht h1,hs qJ (by decide)]
 rfl
theorem aDj {t q:List UInt8} (ht:bP jZ t=true) (hq:bP jZ q=true):gQ (.mk 40 0 0 t q []) 7 [wd q,sg qJ,wd t]:=by
 obtain ⟨n1,n2,n3,n4⟩:=aAW hq
 refine sF (vD _ n1 n2 n3 n4) fun l rest hl hs=>?_
 obtain ⟨t1,l1,rfl,h1,hl⟩:=aW hl
 obtain ⟨t2,l2,rfl,h2,hl⟩:=aW hl
 obtain ⟨t3,l3,rfl,h3,hl⟩:=aW hl
 obtain rfl:=eO hl
 refine dG 0 fun m _=>?_
 rw [show [t1,t2,t3]++rest=t1::t2::t3::rest from rfl,MM hq h1,if_pos (jI qJ (.inr h2) _ (by decide)),List.tail_cons]
 unfold Tk.er wd at h3
 simp only [Prod.mk.injEq] at h3
 obtain ⟨e1,e2,_⟩:=h3
 have hn:gJ (t3::rest)=.ok (t,rest):=by
  unfold gJ
  simp only
  rw [e2,if_pos ⟨e1,ht⟩]
 rw [hn]
 rfl
end
mutual
theorem back:∀ {t:Tm} {r:Nat} {w:List Tz},WT t r w→gQ t r w
 | _,_,_,.chn hr hi ha hb=>aEW hr hi (back ha) (back hb)
 | _,_,_,.cmp hi ha hb=>aEX hi (back ha) (back hb)
 | _,_,_,.no ha=>aHR (back ha)
 | _,_,_,.isNull ha=>TT (back ha)
 | _,_,_,.isTrue ha=>TU (back ha)
 | _,_,_,.isIn ha hk hn=>aCY (back ha) (backs hk) hn
 | _,_,_,.negP ha=>aDb (back ha)
 | _,_,_,.neg ha hp=>aEZ (back ha) fun h=>aDa ha h hp
 | _,_,_,.len ha=>aFa (back ha)
 | _,_,_,.coal ha hb=>aDc (back ha) (back hb)
 | _,_,_,.case ha hb hc=>aDd (back ha) (back hb) (back hc)
 | _,_,_,.rows=>aDe
 | _,_,_,.agg hn ha=>aFb hn (back ha)
 | _,_,_,.null hy=>aDf hy
 | _,_,_,.int _ _=>aFe
 | _,_,_,.intN h0 h1 hw=>aDh h0 h1 hw
 | _,_,_,.tru=>aFc
 | _,_,_,.fls=>aFd
 | _,_,_,.text=>aDg
 | _,_,_,.name ht=>aDi ht
 | _,_,_,.qual ht hq=>aDj ht hq
theorem backs:∀ {ks:List Tm} {ws:List (List Tz)},WTs ks ws→aAV ks ws
 | _,_,.nil=>trivial
 | _,_,.cons ha hk=>⟨⟨_,back ha⟩,backs hk⟩
end
end Go.Proofs.Tryz
