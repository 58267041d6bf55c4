import Derived.Test.YthpmjipkofbeiaaGreatDoorTBcp
set_option linter.all false
namespace Go.Proofs.Tryz
open Go.Ab
set_option maxRecDepth 100000
set_option maxHeartbeats 8000000
theorem reads_succ {lvl:Nat} {L:List Tk} {t:Tm} {rest:List Tk} (n0:Nat) (h:∀ m,n0≤m→parP (m+1) lvl L=.ok (t,rest)):Reads lvl L t rest :=
 ⟨n0+1,fun n hn=>by
  obtain ⟨m,rfl⟩:∃ m,n=m+1:=⟨n - 1,by omega⟩
  exact h m (by omega)⟩
theorem stp_sg (lvl:Nat) {x:List UInt8} (hx:x ∉ banW 0) {tk:Tk} (h:tk.er=wd x∨tk.er=sg x) (r:List Tk) (hl:lvl≤7):Stp lvl (tk::r):=stp_of h fun hm=>hx (ban_sub 0 (by omega) lvl hl (by omega) x hm)
theorem one_er {ws:List (List UInt8)} {tk:Tk} {x:List UInt8} (h:tk.er=wd x∨tk.er=sg x) (r:List Tk):oneOf ws (tk::r)=ws.findIdx? (fun w=>x==w):=by
 unfold oneOf
 have:(fun w=>isW w (tk::r))=fun w=>x==w:=by funext w; exact isW_er h r w
 rw [this]
theorem hd_wd {r:Nat} {x:List UInt8} (w:List Tz) (h1:(x != wStar)=true) (h2:(x != wDistinct)=true) (h3:(x != wNot)=true) (h4:(x != wMinus)=true):HdOk r (wd x::w):=⟨_,_,rfl,by
 unfold hdOk wd
 simp only [h1,h2,h3,h4]
 simp⟩
theorem posW {tk:Tk} {x:List UInt8} (w:List UInt8) (h:tk.er=wd x∨tk.er=sg x) (r:List Tk) (e:(x==w)=true):isW w (tk::r)=true:=by rw [isW_er h,e]
theorem negW {tk:Tk} {x:List UInt8} (w:List UInt8) (h:tk.er=wd x∨tk.er=sg x) (r:List Tk) (e:(x==w)=false):¬ isW w (tk::r)=true:=by rw [isW_er h,e]; decide
section
variable {a:Tm} {ra:Nat} {wa:List Tz}
theorem back_cmp {i:Nat} {b:Tm} {rb:Nat} {wb:List Tz} (hi:i<7) (ha:Back a ra wa) (hb:Back b rb wb):Back (mkT (14+i) [a,b]) 3 (plc 4 ra wa++(tz ((cmpW[i]?).getD [])::plc 4 rb wb)):=by
 obtain ⟨hd,hA⟩:=plc_back ha (want:=4) (by omega)
 have hd3:HdOk 3 (plc 4 ra wa++(tz ((cmpW[i]?).getD [])::plc 4 rb wb)):=by
  obtain ⟨z,w',e,hz⟩:=hd
  exact hd_app ⟨z,w',e,hdOk_up hz (by omega)⟩
 refine ⟨by omega,hd3,back_of (by omega) hd3 fun l rest hl hs=>?_,fun h=>by omega⟩
 obtain ⟨l1,l2,rfl,h1,hl⟩:=er_app hl
 obtain ⟨tk,l3,rfl,h2,h3⟩:=er_cons hl
 have o:(cmpW[i]?).getD [] ∉ banW 4∧cmpW.findIdx? (fun w=>(cmpW[i]?).getD []==w)=some i:=by
  have:i=0∨i=1∨i=2∨i=3∨i=4∨i=5∨i=6:=by omega
  rcases this with rfl | rfl | rfl | rfl | rfl | rfl | rfl <;> decide
 obtain ⟨n1,r1⟩:=hA l1 (tk::(l3++rest)) h1 (stp_tz h2 o.1)
 obtain ⟨n2,r2⟩:=(plc_back hb (want:=4) (by omega)).2 l3 rest h3 (hs.up (ban_sub 3 (by omega) 4 (by omega) (by omega)))
 refine reads_succ (max n1 n2) fun m hm=>?_
 rw [show l1++tk::l3++rest=l1++tk::(l3++rest) from by simp,parP,r1 m (by omega)]
 show (match oneOf cmpW (tk::(l3++rest)) with
  | some i=>mapT (fun b=>mkT (14+i) [a,b]) (parP m 4 (tk::(l3++rest)).tail)
  | none=>_)=_
 rw [one_tz h2 o.2]
 simp only [List.tail_cons]
 rw [r2 m (by omega)]
 rfl
theorem back_no (ha:Back a ra wa):Back (mkT 24 [a]) 2 (wd wNot::plc 2 ra wa):=by
 have hd:HdOk 2 (wd wNot::plc 2 ra wa):=⟨_,_,rfl,by unfold hdOk wd; simp; exact ⟨by decide,by decide⟩⟩
 refine ⟨by omega,hd,back_of (by omega) hd fun l rest hl hs=>?_,fun h=>by omega⟩
 obtain ⟨tk,l1,rfl,h1,h2⟩:=er_cons hl
 obtain ⟨n1,r1⟩:=(plc_back ha (want:=2) (by omega)).2 l1 rest h2 hs
 refine reads_succ n1 fun m hm=>?_
 rw [List.cons_append,parP,isW_er (.inl h1),if_pos (by decide),List.tail_cons,r1 m hm]
 rfl
theorem is_hd (ha:Back a ra wa) (v:List Tz):HdOk 3 (plc 4 ra wa++v):=by
 obtain ⟨z,w',e,hz⟩:=(plc_back ha (want:=4) (by omega)).1
 exact hd_app ⟨z,w',e,hdOk_up hz (by omega)⟩
theorem is_step (ha:Back a ra wa) {x:List UInt8} (hx:x=wIs∨x=wIn) {l rest:List Tk} {v:List Tz} (hl:er l=plc 4 ra wa++(wd x::v)) :
  ∃ l1 tk l2,l=l1++tk::l2∧tk.er=wd x∧er l2=v∧∃ n0,∀ m,n0≤m→parP m 4 (l1++tk::(l2++rest))=.ok (a,tk::(l2++rest))∧oneOf cmpW (tk::(l2++rest))=none:=by
 obtain ⟨l1,l2,rfl,h1,hl⟩:=er_app hl
 obtain ⟨tk,l3,rfl,h2,h3⟩:=er_cons hl
 have hb:x ∉ banW 4:=by rcases hx with rfl | rfl <;> decide
 obtain ⟨n1,r1⟩:=(plc_back ha (want:=4) (by omega)).2 l1 (tk::(l3++rest)) h1 (stp_of (.inl h2) hb)
 refine ⟨l1,tk,l3,rfl,h2,h3,n1,fun m hm=>⟨r1 m hm,?_⟩⟩
 rw [one_er (.inl h2)]
 rcases hx with rfl | rfl <;> decide
theorem back_isNull (ha:Back a ra wa):Back (mkT 21 [a]) 3 (plc 4 ra wa++[wd wIs,wd wNull]):=by
 refine ⟨by omega,is_hd ha _,back_of (by omega) (is_hd ha _) fun l rest hl hs=>?_,fun h=>by omega⟩
 obtain ⟨l1,tk,l2,rfl,h1,h2,n0,hr⟩:=is_step ha (.inl rfl) (rest:=rest) hl
 obtain ⟨t2,l3,rfl,h3,h4⟩:=er_cons h2
 obtain rfl:=er_nil h4
 refine reads_succ n0 fun m hm=>?_
 obtain ⟨r1,r2⟩:=hr m hm
 rw [show l1++tk::[t2]++rest=l1++tk::([t2]++rest) from by simp,parP,r1]
 show (match oneOf cmpW (tk::([t2]++rest)) with
  | some i=>_
  | none=>_)=_
 rw [r2]
 simp only [List.tail_cons,List.cons_append,List.nil_append]
 simp only [isW_er (.inl h1),isW_er (.inl h3)]
 rfl
theorem back_isTrue (ha:Back a ra wa):Back (mkT 25 [a]) 3 (plc 4 ra wa++[wd wIs,wd wTrue]):=by
 refine ⟨by omega,is_hd ha _,back_of (by omega) (is_hd ha _) fun l rest hl hs=>?_,fun h=>by omega⟩
 obtain ⟨l1,tk,l2,rfl,h1,h2,n0,hr⟩:=is_step ha (.inl rfl) (rest:=rest) hl
 obtain ⟨t2,l3,rfl,h3,h4⟩:=er_cons h2
 obtain rfl:=er_nil h4
 refine reads_succ n0 fun m hm=>?_
 obtain ⟨r1,r2⟩:=hr m hm
 rw [show l1++tk::[t2]++rest=l1++tk::([t2]++rest) from by simp,parP,r1]
 show (match oneOf cmpW (tk::([t2]++rest)) with
  | some i=>_
  | none=>_)=_
 rw [r2]
 simp only [List.tail_cons,List.cons_append,List.nil_append]
 simp only [isW_er (.inl h1),isW_er (.inl h3)]
 rfl
def BackL:List Tm→List (List Tz)→Prop
 | [],[]=>True
 | a::ks,w::ws=>(∃ r,Back a r w)∧BackL ks ws
 | _,_=>False
theorem commas_cons {w:List Tz} {ws:List (List Tz)} (h:ws ≠ []):commas (w::ws)=w++(sg wComma::commas ws):=by
 cases ws with
 | nil=>exact absurd rfl h
 | cons v ws=>rfl
theorem ban_punct:wComma ∉ banW 0∧wShut ∉ banW 0∧wThen ∉ banW 0∧wElse ∉ banW 0∧wEnd ∉ banW 0:=by decide
theorem more_back:∀ (ks:List Tm) (ws:List (List Tz)),BackL ks ws→ks ≠ []→∀ (l:List Tk) (rest:List Tk) (tc:Tk) (ks0:List Tm),tc.er=sg wShut→er l=commas ws →
  ∃ a n0,∃ ks' L,ks=a::ks'∧(∀ m,n0≤m→parP m 0 (l++tc::rest)=.ok (a,L))∧tc::rest <:+ L∧∀ m,n0≤m→∀ k,L.length≤k→moreS (parP m 0) k (ks0++[a]) L=.ok (ks0++ks,tc::rest)
 | [],_,_,hn,_,_,_,_,_,_=>absurd rfl hn
 | a::ks,[],hb,_,_,_,_,_,_,_=>hb.elim
 | [a],[w],hb,_,l,rest,tc,ks0,hc,hl=>by
   obtain ⟨⟨r,ha⟩,_⟩:=hb
   obtain ⟨n0,hr⟩:=ha.rd l (tc::rest) hl 0 (Nat.zero_le _) (stp_shut 0 hc rest)
   refine ⟨a,n0,[],tc::rest,rfl,hr,List.suffix_refl _,fun m hm k hk=>?_⟩
   cases k with
   | zero=>rfl
   | succ k=>rw [moreS,isW_er (.inr hc),if_neg (by decide)]
 | a::b::ks,[w],hb,_,_,_,_,_,_,_=>hb.2.elim
 | [a],w::v::ws,hb,_,_,_,_,_,_,_=>hb.2.elim
 | a::b::ks,w::v::ws,hb,_,l,rest,tc,ks0,hc,hl=>by
   obtain ⟨⟨r,ha⟩,hbl⟩:=hb
   rw [commas_cons (by simp)] at hl
   obtain ⟨l1,l2,rfl,h1,hl⟩:=er_app hl
   obtain ⟨tk,l3,rfl,h2,h3⟩:=er_cons hl
   obtain ⟨n0,hr⟩:=ha.rd l1 (tk::(l3++tc::rest)) h1 0 (Nat.zero_le _) (stp_sg 0 ban_punct.1 (.inr h2) _ (by omega))
   obtain ⟨b',n1,ks',L,e,hb1,hsf,hmo⟩:=more_back (b::ks) (v::ws) hbl (by simp) l3 rest tc (ks0++[a]) hc h3
   simp only [List.cons.injEq] at e
   obtain ⟨rfl,rfl⟩:=e
   refine ⟨a,max n0 n1,b::ks,tk::(l3++tc::rest),rfl,fun m hm=>?_,?_,fun m hm k hk=>?_⟩
   ·rw [show l1++tk::l3++tc::rest=l1++tk::(l3++tc::rest) from by simp]
    exact hr m (by omega)
   ·exact ⟨tk::l3,by simp⟩
   ·cases k with
    | zero=>simp at hk
    | succ k =>
      have hp:=hb1 m (by omega)
      have hL:L.length≤(l3++tc::rest).length:=sfx_len (par_sfx m 0 _) hp
      rw [moreS,isW_er (.inr h2),if_pos (by decide),List.tail_cons,hp]
      show moreS (parP m 0) k (ks0++[a]++[b]) L=_
      rw [hmo m (by omega) k (by simp at hk hL; omega)]
      simp
theorem back_isIn {ks:List Tm} {ws:List (List Tz)} (ha:Back a ra wa) (hk:BackL ks ws) (hn:ks ≠ []):Back (mkT 28 (a::ks)) 3 (plc 4 ra wa++(wd wIn::sg wOpen::(commas ws++[sg wShut]))):=by
 refine ⟨by omega,is_hd ha _,back_of (by omega) (is_hd ha _) fun l rest hl hs=>?_,fun h=>by omega⟩
 obtain ⟨l1,tk,l2,rfl,h1,h2,n0,hr⟩:=is_step ha (.inr rfl) (rest:=rest) hl
 obtain ⟨t2,l3,rfl,h3,h4⟩:=er_cons h2
 obtain ⟨l4,l5,rfl,h5,h6⟩:=er_app h4
 obtain ⟨t5,l6,rfl,h7,h8⟩:=er_cons h6
 obtain rfl:=er_nil h8
 obtain ⟨b,n1,ks',L,rfl,hb,hsf,hm⟩:=more_back ks ws hk hn l4 rest t5 [a] h7 h5
 refine reads_succ (max n0 n1) fun m hmm=>?_
 obtain ⟨r1,r2⟩:=hr m (by omega)
 rw [show l1++tk::t2::(l4++[t5])++rest=l1++tk::(t2::(l4++[t5])++rest) from by simp,parP,r1]
 show (match oneOf cmpW (tk::(t2::(l4++[t5])++rest)) with
  | some i=>_
  | none=>_)=_
 rw [r2]
 simp only [List.tail_cons,List.cons_append,List.append_assoc,List.nil_append]
 rw [if_neg (negW wIs (.inl h1) _ (by decide)),if_pos (posW wIn (.inl h1) _ (by decide))]
 rw [exp_one (by rw [isW_er (.inr h3)]; decide)]
 show bind2 (parP m 0 (l4++t5::rest)) _=_
 rw [hb m (by omega)]
 show bind2 (moreS (parP m 0) L.length ([a]++[b]) L) _=_
 rw [hm m (by omega) L.length (Nat.le_refl _)]
 show bind1 (expS [wShut] (t5::rest)) _=_
 rw [exp_one (by rw [isW_er (.inr h7)]; decide)]
 rfl
end
end Go.Proofs.Tryz
