import Derived.Test.YthpmjipkofbeiaaGreatDoorBcq
set_option linter.all false
namespace Go.Proofs.Tryz
open Go.Ab
set_option maxRecDepth 100000
set_option maxHeartbeats 8000000
def numZ (z:Tz):Bool:=z.1==2&&z.2.1 != [48]
theorem isNum_er {l:List Tk} {z:Tz} {w:List Tz} (h:er l=z::w) (rest:List Tk):isNum (l++rest)=numZ z:=by
 obtain ⟨t,l2,rfl,ht,_⟩:=er_cons h
 unfold Tk.er at ht
 subst ht
 rfl
theorem num_first {a:Tm} {ra:Nat} {wa:List Tz} (h:WT a ra wa) (hr:6≤ra) (hp:posN a=false):∀ z w',wa=z::w'→numZ z=false:=by
 intro z w' e
 cases h with
 | chn h _ _ _=>omega
 | cmp=>omega
 | no=>omega
 | isNull=>omega
 | isTrue=>omega
 | isIn=>omega
 | int h0 hw =>
   rename_i n w
   simp only [posN,beq_self_eq_true,Bool.true_and,decide_eq_false_iff_not] at hp
   have:n=0:=by omega
   simp only [List.cons.injEq] at e
   obtain ⟨rfl,_⟩:=e
   rw [hw this]
   rfl
 | agg hn ha =>
   unfold aggN at e
   split at e
   ·simp only [List.cons_append,List.cons.injEq] at e; obtain ⟨rfl,_⟩:=e; rfl
   ·split at e
    ·simp only [List.cons_append,List.cons.injEq] at e; obtain ⟨rfl,_⟩:=e; rfl
    ·split at e
     ·simp only [List.cons_append,List.cons.injEq] at e; obtain ⟨rfl,_⟩:=e; rfl
     ·split at e
      ·simp only [List.cons_append,List.cons.injEq] at e; obtain ⟨rfl,_⟩:=e; rfl
      ·simp only [List.cons_append,List.cons.injEq] at e; obtain ⟨rfl,_⟩:=e; rfl
 | negP=>simp only [List.cons.injEq] at e; obtain ⟨rfl,_⟩:=e; rfl
 | neg=>simp only [List.cons.injEq] at e; obtain ⟨rfl,_⟩:=e; rfl
 | len=>simp only [List.cons.injEq] at e; obtain ⟨rfl,_⟩:=e; rfl
 | coal=>simp only [List.cons.injEq] at e; obtain ⟨rfl,_⟩:=e; rfl
 | case=>simp only [List.cons.injEq] at e; obtain ⟨rfl,_⟩:=e; rfl
 | rows=>simp only [List.cons.injEq] at e; obtain ⟨rfl,_⟩:=e; rfl
 | null=>simp only [List.cons.injEq] at e; obtain ⟨rfl,_⟩:=e; rfl
 | intN=>simp only [List.cons.injEq] at e; obtain ⟨rfl,_⟩:=e; rfl
 | tru=>simp only [List.cons.injEq] at e; obtain ⟨rfl,_⟩:=e; rfl
 | fls=>simp only [List.cons.injEq] at e; obtain ⟨rfl,_⟩:=e; rfl
 | text=>simp only [List.cons.injEq] at e; obtain ⟨rfl,_⟩:=e; rfl
 | name=>simp only [List.cons.injEq] at e; obtain ⟨rfl,_⟩:=e; rfl
 | qual=>simp only [List.cons.injEq] at e; obtain ⟨rfl,_⟩:=e; rfl
theorem hd_minus {w:List Tz}:HdOk 6 (sg wMinus::w):=⟨_,_,rfl,by decide⟩
section
variable {a:Tm} {ra:Nat} {wa:List Tz}
theorem neg_of {w:List Tz} (hr:∀ l rest,er l=w→Stp 6 rest→Reads 6 (l++rest) a rest) (hn:∀ z w',w=z::w'→numZ z=false) (hne:w ≠ []):Back (mkT 11 [a]) 6 (sg wMinus::w):=by
 refine ⟨by omega,hd_minus,back_of (by omega) hd_minus fun l rest hl hs=>?_,fun h=>by omega⟩
 obtain ⟨tk,l1,rfl,h1,h2⟩:=er_cons hl
 obtain ⟨n0,h⟩:=hr l1 rest h2 hs
 obtain ⟨z,w',e⟩:=List.exists_cons_of_ne_nil hne
 have hnum:=isNum_er (h2.trans e) rest
 rw [hn z w' e] at hnum
 refine reads_succ n0 fun m hm=>?_
 rw [List.cons_append,parP,if_pos (posW wMinus (.inr h1) _ (by decide)),List.tail_cons,hnum,if_neg (by decide),h m hm]
 rfl
theorem back_negP (ha:Back a ra wa):Back (mkT 11 [a]) 6 (sg wMinus::sg wOpen::(wa++[sg wShut])):=by
 refine neg_of (fun l rest hl hs=>?_) (fun z w' e=>by simp only [List.cons.injEq] at e; obtain ⟨rfl,_⟩:=e; rfl) (by simp)
 obtain ⟨_,_,_,h4⟩:=(hd_par (r:=7) (wa:=wa++[sg wShut])).isW hl rest
 exact reads_down 1 7 6 (by omega) (by omega) (reads_par ha hl rest) hs (fun h=>by omega) (fun _ _=>h4 (by omega))
theorem back_neg (ha:Back a ra wa) (hn:6≤ra→∀ z w',wa=z::w'→numZ z=false):Back (mkT 11 [a]) 6 (sg wMinus::plc 6 ra wa):=by
 obtain ⟨hd,hr⟩:=plc_back ha (want:=6) (by omega)
 refine neg_of hr (fun z w' e=>?_) (fun e=>by obtain ⟨z,w',e',_⟩:=hd; rw [e] at e'; cases e')
 unfold plc at e
 split at e
 ·simp only [List.cons.injEq] at e; obtain ⟨rfl,_⟩:=e; rfl
 ·exact hn (by omega) z w' e
theorem back7 {t:Tm} {w:List Tz} (hd:HdOk 7 w) (h:∀ l rest,er l=w→Stp 7 rest→Reads 7 (l++rest) t rest):Back t 7 w:=⟨by omega,hd,back_of (by omega) hd h,fun h=>by omega⟩
theorem list0 {p:List Tk→Res Tm} {t2 t3:Tk} {L rest:List Tk} (h2:t2.er=sg wOpen) (h3:t3.er=sg wShut) (hp:p L=.ok (a,t3::rest)):listS p 0 (t2::L)=.ok ([a],rest):=by
 unfold listS
 rw [exp_one (posW wOpen (.inr h2) _ (by decide))]
 show bind2 (p L) _=_
 rw [hp]
 show bind1 (expS [wShut] (t3::rest)) _=_
 rw [exp_one (posW wShut (.inr h3) _ (by decide))]
 rfl
theorem list1 {b:Tm} {p:List Tk→Res Tm} {t2 t3 t4:Tk} {L L2 rest:List Tk} (h2:t2.er=sg wOpen) (h3:t3.er=sg wComma) (h4:t4.er=sg wShut) (hp:p L=.ok (a,t3::L2)) (hq:p L2=.ok (b,t4::rest)):listS p 1 (t2::L)=.ok ([a,b],rest):=by
 unfold listS
 rw [exp_one (posW wOpen (.inr h2) _ (by decide))]
 show bind2 (p L) _=_
 rw [hp]
 show bind2 (restS p 1 [a] (t3::L2)) _=_
 have e:restS p 1 [a] (t3::L2)=.ok ([a,b],t4::rest):=by
  rw [restS,exp_one (posW wComma (.inr h3) _ (by decide))]
  show bind2 (p L2) _=_
  rw [hq]
  rfl
 rw [e]
 show bind1 (expS [wShut] (t4::rest)) _=_
 rw [exp_one (posW wShut (.inr h4) _ (by decide))]
 rfl
theorem back_len (ha:Back a ra wa):Back (mkT 13 [a]) 7 (wd wLength::sg wOpen::(wa++[sg wShut])):=by
 refine back7 (hd_wd _ (by decide) (by decide) (by decide) (by decide)) fun l rest hl hs=>?_
 obtain ⟨t1,l1,rfl,h1,hl⟩:=er_cons hl
 obtain ⟨t2,l2,rfl,h2,hl⟩:=er_cons hl
 obtain ⟨l3,l4,rfl,h3,hl⟩:=er_app hl
 obtain ⟨t4,l5,rfl,h4,hl⟩:=er_cons hl
 obtain rfl:=er_nil hl
 obtain ⟨n0,hr⟩:=ha.rd l3 (t4::rest) h3 0 (Nat.zero_le _) (stp_shut 0 h4 rest)
 obtain ⟨k2,k3⟩:=kd_wd (.inl h1)
 refine reads_succ n0 fun m hm=>?_
 rw [show t1::t2::(l3++[t4])++rest=t1::t2::(l3++t4::rest) from by simp,parP,if_neg k2,if_neg k3]
 simp only [isW_er (.inl h1),list0 h2 h4 (hr m hm)]
 rfl
theorem back_coal {b:Tm} {rb:Nat} {wb:List Tz} (ha:Back a ra wa) (hb:Back b rb wb):Back (mkT 27 [a,b]) 7 (wd wCoalesce::sg wOpen::(wa++(sg wComma::(wb++[sg wShut])))):=by
 refine back7 (hd_wd _ (by decide) (by decide) (by decide) (by decide)) fun l rest hl hs=>?_
 obtain ⟨t1,l1,rfl,h1,hl⟩:=er_cons hl
 obtain ⟨t2,l2,rfl,h2,hl⟩:=er_cons hl
 obtain ⟨l3,l4,rfl,h3,hl⟩:=er_app hl
 obtain ⟨t4,l5,rfl,h4,hl⟩:=er_cons hl
 obtain ⟨l6,l7,rfl,h6,hl⟩:=er_app hl
 obtain ⟨t7,l8,rfl,h7,hl⟩:=er_cons hl
 obtain rfl:=er_nil hl
 obtain ⟨n0,hr⟩:=ha.rd l3 (t4::(l6++t7::rest)) h3 0 (Nat.zero_le _) (stp_sg 0 ban_punct.1 (.inr h4) _ (by omega))
 obtain ⟨n1,hr2⟩:=hb.rd l6 (t7::rest) h6 0 (Nat.zero_le _) (stp_shut 0 h7 rest)
 obtain ⟨k2,k3⟩:=kd_wd (.inl h1)
 refine reads_succ (max n0 n1) fun m hm=>?_
 rw [show t1::t2::(l3++t4::(l6++[t7]))++rest=t1::t2::(l3++t4::(l6++t7::rest)) from by simp,parP,if_neg k2,if_neg k3]
 simp only [isW_er (.inl h1),list1 h2 h4 h7 (hr m (by omega)) (hr2 m (by omega))]
 rfl
theorem back_case {b c:Tm} {rb rc:Nat} {wb wc:List Tz} (ha:Back a ra wa) (hb:Back b rb wb) (hc:Back c rc wc) :
  Back (mkT 26 [a,b,c]) 7 (wd wCase::wd wWhen::(wa++(wd wThen::(wb++(wd wElse::(wc++[wd wEnd])))))):=by
 refine back7 (hd_wd _ (by decide) (by decide) (by decide) (by decide)) fun l rest hl hs=>?_
 obtain ⟨t1,l1,rfl,h1,hl⟩:=er_cons hl
 obtain ⟨t2,l2,rfl,h2,hl⟩:=er_cons hl
 obtain ⟨l3,l4,rfl,h3,hl⟩:=er_app hl
 obtain ⟨t4,l5,rfl,h4,hl⟩:=er_cons hl
 obtain ⟨l6,l7,rfl,h6,hl⟩:=er_app hl
 obtain ⟨t7,l8,rfl,h7,hl⟩:=er_cons hl
 obtain ⟨l9,l10,rfl,h9,hl⟩:=er_app hl
 obtain ⟨t10,l11,rfl,h10,hl⟩:=er_cons hl
 obtain rfl:=er_nil hl
 obtain ⟨n0,hr⟩:=ha.rd l3 (t4::(l6++t7::(l9++t10::rest))) h3 0 (Nat.zero_le _) (stp_sg 0 ban_punct.2.2.1 (.inl h4) _ (by omega))
 obtain ⟨n1,hr2⟩:=hb.rd l6 (t7::(l9++t10::rest)) h6 0 (Nat.zero_le _) (stp_sg 0 ban_punct.2.2.2.1 (.inl h7) _ (by omega))
 obtain ⟨n2,hr3⟩:=hc.rd l9 (t10::rest) h9 0 (Nat.zero_le _) (stp_sg 0 ban_punct.2.2.2.2 (.inl h10) _ (by omega))
 obtain ⟨k2,k3⟩:=kd_wd (.inl h1)
 refine reads_succ (max n0 (max n1 n2)) fun m hm=>?_
 have e:caseS (parP m 0) [wWhen,wThen,wElse] [] (t2::(l3++t4::(l6++t7::(l9++t10::rest))))=.ok ([a,b,c],t10::rest):=by
  rw [caseS,exp_one (posW wWhen (.inl h2) _ (by decide))]
  show bind2 (parP m 0 (l3++t4::(l6++t7::(l9++t10::rest)))) _=_
  rw [hr m (by omega)]
  show caseS (parP m 0) [wThen,wElse] ([]++[a]) (t4::(l6++t7::(l9++t10::rest)))=_
  rw [caseS,exp_one (posW wThen (.inl h4) _ (by decide))]
  show bind2 (parP m 0 (l6++t7::(l9++t10::rest))) _=_
  rw [hr2 m (by omega)]
  show caseS (parP m 0) [wElse] ([]++[a]++[b]) (t7::(l9++t10::rest))=_
  rw [caseS,exp_one (posW wElse (.inl h7) _ (by decide))]
  show bind2 (parP m 0 (l9++t10::rest)) _=_
  rw [hr3 m (by omega)]
  rfl
 rw [show t1::t2::(l3++t4::(l6++t7::(l9++[t10])))++rest=t1::t2::(l3++t4::(l6++t7::(l9++t10::rest))) from by simp,parP,if_neg k2,if_neg k3]
 simp only [isW_er (.inl h1),e]
 show bind1 (expS [wEnd] (t10::rest)) _=_
 rw [exp_one (posW wEnd (.inl h10) _ (by decide))]
 rfl
theorem back_rows:Back (.mk 41 0 1 [] [] []) 7 [wd wCount,sg wOpen,sg wStar,sg wShut]:=by
 refine back7 (hd_wd _ (by decide) (by decide) (by decide) (by decide)) fun l rest hl hs=>?_
 obtain ⟨t1,l1,rfl,h1,hl⟩:=er_cons hl
 obtain ⟨t2,l2,rfl,h2,hl⟩:=er_cons hl
 obtain ⟨t3,l3,rfl,h3,hl⟩:=er_cons hl
 obtain ⟨t4,l4,rfl,h4,hl⟩:=er_cons hl
 obtain rfl:=er_nil hl
 obtain ⟨k2,k3⟩:=kd_wd (.inl h1)
 refine reads_succ 0 fun m _=>?_
 have ho:oneOf aggW (t1::t2::t3::t4::rest)=some 0:=(one_er (.inl h1) _).trans (by decide)
 have e:aggS (parP m 0) 0 (t2::t3::t4::rest)=.ok (.mk 41 0 1 [] [] [],rest):=by
  unfold aggS
  rw [exp_one (posW wOpen (.inr h2) _ (by decide))]
  show (if (0=0∧isW wStar (t3::t4::rest)=true) then bind1 (expS [wShut] (t4::rest)) _ else _)=_
  rw [if_pos ⟨rfl,posW wStar (.inr h3) _ (by decide)⟩,exp_one (posW wShut (.inr h4) _ (by decide))]
  rfl
 rw [show [t1,t2,t3,t4]++rest=t1::t2::t3::t4::rest from rfl,parP,if_neg k2,if_neg k3]
 simp only [isW_er (.inl h1),ho,e]
 rfl
theorem back_agg {n:Int} (hn:2≤n∧n≤6) (ha:Back a ra wa):Back (.mk 41 0 n [] [] [a]) 7 (aggN n++(wa++[sg wShut])):=by
 have plain:∀ (i:Nat) (x:List UInt8),(x=wCount∧i=0∨x=wSum∧i=1∨x=wMin∧i=2∨x=wMax∧i=3)→Back (.mk 41 0 (aggF i) [] [] [a]) 7 (wd x::sg wOpen::(wa++[sg wShut])):=by
  intro i x hx
  have hx2:(x != wStar)=true∧(x != wDistinct)=true∧(x != wNot)=true∧(x != wMinus)=true∧aggW.findIdx? (fun w=>x==w)=some i∧∀ w∈[wTrue,wFalse,wNull,wOpen,wLength,wCoalesce,wCase],(x==w)=false:=by
   rcases hx with ⟨rfl,rfl⟩ | ⟨rfl,rfl⟩ | ⟨rfl,rfl⟩ | ⟨rfl,rfl⟩ <;> decide
  obtain ⟨x1,x2,x3,x4,x5,x6⟩:=hx2
  refine back7 (hd_wd _ x1 x2 x3 x4) fun l rest hl hs=>?_
  obtain ⟨t1,l1,rfl,h1,hl⟩:=er_cons hl
  obtain ⟨t2,l2,rfl,h2,hl⟩:=er_cons hl
  obtain ⟨l3,l4,rfl,h3,hl⟩:=er_app hl
  obtain ⟨t4,l5,rfl,h4,hl⟩:=er_cons hl
  obtain rfl:=er_nil hl
  obtain ⟨n0,hr⟩:=ha.rd l3 (t4::rest) h3 0 (Nat.zero_le _) (stp_shut 0 h4 rest)
  obtain ⟨q1,q2,_,_⟩:=ha.hd.isW h3 (t4::rest)
  obtain ⟨k2,k3⟩:=kd_wd (.inl h1)
  refine reads_succ n0 fun m hm=>?_
  have ho:oneOf aggW (t1::t2::(l3++t4::rest))=some i:=(one_er (.inl h1) _).trans x5
  have e:aggS (parP m 0) i (t2::(l3++t4::rest))=.ok (.mk 41 0 (aggF i) [] [] [a],rest):=by
   unfold aggS
   rw [exp_one (posW wOpen (.inr h2) _ (by decide))]
   show (if (i=0∧isW wStar (l3++t4::rest)=true) then _ else if (i=0∧isW wDistinct (l3++t4::rest)=true) then _ else bind2 (parP m 0 (l3++t4::rest)) _)=_
   rw [if_neg (fun h=>by rw [q1] at h; cases h.2),if_neg (fun h=>by rw [q2] at h; cases h.2),hr m hm]
   show bind1 (expS [wShut] (t4::rest)) _=_
   rw [exp_one (posW wShut (.inr h4) _ (by decide))]
   rfl
  have z:=fun w hw=>x6 w hw
  rw [show t1::t2::(l3++[t4])++rest=t1::t2::(l3++t4::rest) from by simp,parP,if_neg k2,if_neg k3]
  simp only [isW_er (.inl h1),z wTrue (by simp),z wFalse (by simp),z wNull (by simp),z wOpen (by simp),z wLength (by simp),z wCoalesce (by simp),z wCase (by simp),ho,e]
  rfl
 have:n=2∨n=3∨n=4∨n=5∨n=6:=by omega
 rcases this with rfl | rfl | rfl | rfl | rfl
 ·exact plain 0 wCount (.inl ⟨rfl,rfl⟩)
 ·-- count(distinct ..)
  rw [show aggN 3++(wa++[sg wShut])=wd wCount::sg wOpen::wd wDistinct::(wa++[sg wShut]) from rfl]
  refine back7 (hd_wd _ (by decide) (by decide) (by decide) (by decide)) fun l rest hl hs=>?_
  obtain ⟨t1,l1,rfl,h1,hl⟩:=er_cons hl
  obtain ⟨t2,l2,rfl,h2,hl⟩:=er_cons hl
  obtain ⟨t3,l2,rfl,h0,hl⟩:=er_cons hl
  obtain ⟨l3,l4,rfl,h3,hl⟩:=er_app hl
  obtain ⟨t4,l5,rfl,h4,hl⟩:=er_cons hl
  obtain rfl:=er_nil hl
  obtain ⟨n0,hr⟩:=ha.rd l3 (t4::rest) h3 0 (Nat.zero_le _) (stp_shut 0 h4 rest)
  obtain ⟨k2,k3⟩:=kd_wd (.inl h1)
  refine reads_succ n0 fun m hm=>?_
  have ho:oneOf aggW (t1::t2::t3::(l3++t4::rest))=some 0:=(one_er (.inl h1) _).trans (by decide)
  have e:aggS (parP m 0) 0 (t2::t3::(l3++t4::rest))=.ok (.mk 41 0 3 [] [] [a],rest):=by
   unfold aggS
   rw [exp_one (posW wOpen (.inr h2) _ (by decide))]
   show (if (0=0∧isW wStar (t3::(l3++t4::rest))=true) then _ else if (0=0∧isW wDistinct (t3::(l3++t4::rest))=true) then bind2 (parP m 0 (l3++t4::rest)) _ else _)=_
   rw [if_neg (fun h=>absurd h.2 (negW wStar (.inl h0) _ (by decide))),if_pos ⟨rfl,posW wDistinct (.inl h0) _ (by decide)⟩,hr m hm]
   show bind1 (expS [wShut] (t4::rest)) _=_
   rw [exp_one (posW wShut (.inr h4) _ (by decide))]
   rfl
  rw [show t1::t2::t3::(l3++[t4])++rest=t1::t2::t3::(l3++t4::rest) from by simp,parP,if_neg k2,if_neg k3]
  simp only [isW_er (.inl h1),ho,e]
  rfl
 ·exact plain 1 wSum (.inr (.inl ⟨rfl,rfl⟩))
 ·exact plain 2 wMin (.inr (.inr (.inl ⟨rfl,rfl⟩)))
 ·exact plain 3 wMax (.inr (.inr (.inr ⟨rfl,rfl⟩)))
theorem back_null {y:Int} (hy:1≤y∧y≤3):Back (.mk 1 y 0 [] [] []) 7 [wd wNull,wd (typW y)]:=by
 refine back7 (hd_wd _ (by decide) (by decide) (by decide) (by decide)) fun l rest hl hs=>?_
 obtain ⟨t1,l1,rfl,h1,hl⟩:=er_cons hl
 obtain ⟨t2,l2,rfl,h2,hl⟩:=er_cons hl
 obtain rfl:=er_nil hl
 obtain ⟨k2,k3⟩:=kd_wd (.inl h1)
 refine reads_succ 0 fun m _=>?_
 obtain ⟨i,hi,ho⟩:∃ i:Nat,(1+i:Int)=y∧[wInt,wBool,wText].findIdx? (fun w=>typW y==w)=some i:=by
  have:y=1∨y=2∨y=3:=by omega
  rcases this with rfl | rfl | rfl
  ·exact ⟨0,by decide,by decide⟩
  ·exact ⟨1,by decide,by decide⟩
  ·exact ⟨2,by decide,by decide⟩
 have e:oneOf [wInt,wBool,wText] (t2::rest)=some i:=(one_er (.inl h2) _).trans ho
 rw [show [t1,t2]++rest=t1::t2::rest from rfl,parP,if_neg k2,if_neg k3]
 simp only [isW_er (.inl h1),e,List.tail_cons]
 rw [← hi]
 rfl
theorem back_tru:Back (.mk 3 0 1 [] [] []) 7 [wd wTrue]:=by
 refine back7 (hd_wd _ (by decide) (by decide) (by decide) (by decide)) fun l rest hl hs=>?_
 obtain ⟨t1,l1,rfl,h1,hl⟩:=er_cons hl
 obtain rfl:=er_nil hl
 obtain ⟨k2,k3⟩:=kd_wd (.inl h1)
 refine reads_succ 0 fun m _=>?_
 rw [show [t1]++rest=t1::rest from rfl,parP,if_neg k2,if_neg k3]
 simp only [isW_er (.inl h1)]
 rfl
theorem back_fls:Back (mkT 3 []) 7 [wd wFalse]:=by
 refine back7 (hd_wd _ (by decide) (by decide) (by decide) (by decide)) fun l rest hl hs=>?_
 obtain ⟨t1,l1,rfl,h1,hl⟩:=er_cons hl
 obtain rfl:=er_nil hl
 obtain ⟨k2,k3⟩:=kd_wd (.inl h1)
 refine reads_succ 0 fun m _=>?_
 rw [show [t1]++rest=t1::rest from rfl,parP,if_neg k2,if_neg k3]
 simp only [isW_er (.inl h1)]
 rfl
theorem back_int {n:Int} {w:List UInt8}:Back (.mk 2 0 n [] [] []) 7 [(2,w,w,n)]:=by
 refine back7 ⟨_,_,rfl,rfl⟩ fun l rest hl hs=>?_
 obtain ⟨t1,l1,rfl,h1,hl⟩:=er_cons hl
 obtain rfl:=er_nil hl
 unfold Tk.er at h1
 simp only [Prod.mk.injEq] at h1
 obtain ⟨e1,e2,e3,e4⟩:=h1
 refine reads_succ 0 fun m _=>?_
 rw [show [t1]++rest=t1::rest from rfl,parP,if_pos e1,e4]
theorem back_text {t w:List UInt8}:Back (.mk 4 0 0 t [] []) 7 [(3,w,t,0)]:=by
 refine back7 ⟨_,_,rfl,rfl⟩ fun l rest hl hs=>?_
 obtain ⟨t1,l1,rfl,h1,hl⟩:=er_cons hl
 obtain rfl:=er_nil hl
 unfold Tk.er at h1
 simp only [Prod.mk.injEq] at h1
 obtain ⟨e1,e2,e3,e4⟩:=h1
 refine reads_succ 0 fun m _=>?_
 rw [show [t1]++rest=t1::rest from rfl,parP,if_neg (by omega),if_pos e1,e3]
theorem back_intN {n:Int} {w:List UInt8} (h0:n<0) (h1:-1000000000000≤n) (hw:w ≠ [48]):Back (.mk 2 0 n [] [] []) 6 [sg wMinus,(2,w,w,-n)]:=by
 refine ⟨by omega,hd_minus,back_of (by omega) hd_minus fun l rest hl hs=>?_,fun h=>by omega⟩
 obtain ⟨tk,l1,rfl,h2,hl⟩:=er_cons hl
 have hnum:=isNum_er hl rest
 obtain ⟨t1,l2,rfl,h3,hl⟩:=er_cons hl
 obtain rfl:=er_nil hl
 unfold Tk.er at h3
 simp only [Prod.mk.injEq] at h3
 obtain ⟨e1,e2,e3,e4⟩:=h3
 have hn:numZ ((2:Int),w,w,-n)=true:=by unfold numZ; simpa using hw
 rw [hn] at hnum
 refine reads_succ 0 fun m _=>?_
 rw [show [tk,t1]++rest=tk::([t1]++rest) from rfl,parP,if_pos (posW wMinus (.inr h2) _ (by decide)),List.tail_cons,if_pos hnum]
 show Except.ok (Tm.mk 2 0 (IntKind.i64.wrap (-t1.n)) [] [] [],rest)=_
 rw [e4,Int.neg_neg,wrap_in (by omega) (by omega)]
theorem name_ne {t:List UInt8} (ht:nameOk rsv t=true):(t != wStar)=true∧(t != wDistinct)=true∧(t != wNot)=true∧(t != wMinus)=true:=by
 have h:∀ w,nameOk rsv w=false→(t != w)=true:=fun w hw=>by
  rw [bne_iff_ne]
  rintro rfl
  rw [ht] at hw; cases hw
 exact ⟨h _ (by decide),h _ (by decide),h _ (by decide),h _ (by decide)⟩
theorem name_read {t:List UInt8} (ht:nameOk rsv t=true) {tk:Tk} (h:tk.er=wd t) (L:List Tk) (m:Nat):parP (m+1) 7 (tk::L) =
  if isW wDot L=true then bind2 (nameS L.tail) fun b l2=>.ok (.mk 40 0 0 b t [],l2) else .ok (.mk 40 0 0 t [] [],L):=by
 obtain ⟨k2,k3⟩:=kd_wd (.inl h)
 have h':=h
 unfold Tk.er wd at h'
 simp only [Prod.mk.injEq] at h'
 obtain ⟨e1,e2,_⟩:=h'
 have q:∀ w,nameOk rsv w=false→isW w (tk::L)=false:=fun w hw=>not_name hw (by simp only [hdT]; rw [e2]; exact ht)
 have ha:oneOf aggW (tk::L)=none:=by
  unfold oneOf aggW
  simp [List.findIdx?_cons,q wCount (by decide),q wSum (by decide),q wMin (by decide),q wMax (by decide)]
 have hn:nameS (tk::L)=.ok (t,L):=by
  unfold nameS
  simp only
  rw [e2,if_pos ⟨e1,ht⟩]
 rw [parP,if_neg k2,if_neg k3]
 simp only [q wTrue (by decide),q wFalse (by decide),q wNull (by decide),q wOpen (by decide),q wLength (by decide),q wCoalesce (by decide),q wCase (by decide),ha,hn]
 rfl
theorem back_name {t:List UInt8} (ht:nameOk rsv t=true):Back (.mk 40 0 0 t [] []) 7 [wd t]:=by
 obtain ⟨n1,n2,n3,n4⟩:=name_ne ht
 refine back7 (hd_wd _ n1 n2 n3 n4) fun l rest hl hs=>?_
 obtain ⟨t1,l1,rfl,h1,hl⟩:=er_cons hl
 obtain rfl:=er_nil hl
 refine reads_succ 0 fun m _=>?_
 rw [show [t1]++rest=t1::rest from rfl,name_read ht h1,hs wDot (by decide)]
 rfl
theorem back_qual {t q:List UInt8} (ht:nameOk rsv t=true) (hq:nameOk rsv q=true):Back (.mk 40 0 0 t q []) 7 [wd q,sg wDot,wd t]:=by
 obtain ⟨n1,n2,n3,n4⟩:=name_ne hq
 refine back7 (hd_wd _ n1 n2 n3 n4) fun l rest hl hs=>?_
 obtain ⟨t1,l1,rfl,h1,hl⟩:=er_cons hl
 obtain ⟨t2,l2,rfl,h2,hl⟩:=er_cons hl
 obtain ⟨t3,l3,rfl,h3,hl⟩:=er_cons hl
 obtain rfl:=er_nil hl
 refine reads_succ 0 fun m _=>?_
 rw [show [t1,t2,t3]++rest=t1::t2::t3::rest from rfl,name_read hq h1,if_pos (posW wDot (.inr h2) _ (by decide)),List.tail_cons]
 unfold Tk.er wd at h3
 simp only [Prod.mk.injEq] at h3
 obtain ⟨e1,e2,_⟩:=h3
 have hn:nameS (t3::rest)=.ok (t,rest):=by
  unfold nameS
  simp only
  rw [e2,if_pos ⟨e1,ht⟩]
 rw [hn]
 rfl
end
mutual
theorem back:∀ {t:Tm} {r:Nat} {w:List Tz},WT t r w→Back t r w
 | _,_,_,.chn hr hi ha hb=>back_chn hr hi (back ha) (back hb)
 | _,_,_,.cmp hi ha hb=>back_cmp hi (back ha) (back hb)
 | _,_,_,.no ha=>back_no (back ha)
 | _,_,_,.isNull ha=>back_isNull (back ha)
 | _,_,_,.isTrue ha=>back_isTrue (back ha)
 | _,_,_,.isIn ha hk hn=>back_isIn (back ha) (backs hk) hn
 | _,_,_,.negP ha=>back_negP (back ha)
 | _,_,_,.neg ha hp=>back_neg (back ha) fun h=>num_first ha h hp
 | _,_,_,.len ha=>back_len (back ha)
 | _,_,_,.coal ha hb=>back_coal (back ha) (back hb)
 | _,_,_,.case ha hb hc=>back_case (back ha) (back hb) (back hc)
 | _,_,_,.rows=>back_rows
 | _,_,_,.agg hn ha=>back_agg hn (back ha)
 | _,_,_,.null hy=>back_null hy
 | _,_,_,.int _ _=>back_int
 | _,_,_,.intN h0 h1 hw=>back_intN h0 h1 hw
 | _,_,_,.tru=>back_tru
 | _,_,_,.fls=>back_fls
 | _,_,_,.text=>back_text
 | _,_,_,.name ht=>back_name ht
 | _,_,_,.qual ht hq=>back_qual ht hq
theorem backs:∀ {ks:List Tm} {ws:List (List Tz)},WTs ks ws→BackL ks ws
 | _,_,.nil=>trivial
 | _,_,.cons ha hk=>⟨⟨_,back ha⟩,backs hk⟩
end
theorem term_back {t:Tm} {r:Nat} {w:List Tz} (h:WT t r w) {l:List Tk} (hl:er l=w) {e:Tk} (he:e.kd=5) {n:Nat} (hn:9*(l.length+1)+8≤n):parP n 0 (l++[e])=.ok (t,[e]) :=
 ((back h).rd l [e] hl 0 (Nat.zero_le _) fun w _=>by simp [isW,he]).at (by omega) (by unfold need; rw [List.length_append]; simpa using hn)
end Go.Proofs.Tryz
