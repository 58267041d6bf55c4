import Derived.Test.YthpmjipkofbeiaaGreatDoorTPru
set_option linter.all false
namespace Go.Proofs.Tryz
open Go.Ab
set_option maxRecDepth 100000
set_option maxHeartbeats 8000000
abbrev Tz:=Int×List UInt8×List UInt8×Int
def Tk.er (t:Tk):Tz:=(t.kd,t.rw,t.tx,t.n)
def er (l:List Tk):List Tz:=l.map Tk.er
def wd (w:List UInt8):Tz:=(1,w,w,0)
def sg (w:List UInt8):Tz:=(4,w,w,0)
def isWd (w:List UInt8):Bool:=match w with
 | c::_=>lowr c
 | []=>false
def tz (w:List UInt8):Tz:=if isWd w=true then wd w else sg w
theorem isW_er {tk:Tk} {x:List UInt8} (h:tk.er=wd x∨tk.er=sg x) (r:List Tk) (w:List UInt8):isW w (tk::r)=(x==w):=by
 unfold Tk.er wd sg at h
 show ((tk.kd==1||tk.kd==4)&&tk.rw==w)=_
 rcases h with h | h <;> (simp only [Prod.mk.injEq] at h; obtain ⟨h1,h2,_⟩:=h; rw [h1,h2]; simp)
theorem isW_tz {tk:Tk} {x:List UInt8} (h:tk.er=tz x) (r:List Tk) (w:List UInt8):isW w (tk::r)=(x==w):=by
 unfold tz at h
 split at h
 ·exact isW_er (.inl h) r w
 ·exact isW_er (.inr h) r w
def banW:Nat→List (List UInt8)
 | 0=>wOr::wAnd::(cmpW++(wIs::wIn::(addW++(mulW++[wDot]))))
 | 1=>wAnd::(cmpW++(wIs::wIn::(addW++(mulW++[wDot]))))
 | 2=>cmpW++(wIs::wIn::(addW++(mulW++[wDot])))
 | 3=>cmpW++(wIs::wIn::(addW++(mulW++[wDot])))
 | 4=>addW++(mulW++[wDot])
 | 5=>mulW++[wDot]
 | _=>[wDot]
def Stp (lvl:Nat) (l:List Tk):Prop:=∀ w∈banW lvl,isW w l=false
theorem one_none {ws:List (List UInt8)} {l:List Tk} (h:∀ w∈ws,isW w l=false):oneOf ws l=none:=by
 unfold oneOf
 rw [List.findIdx?_eq_none_iff]
 intro x hx
 exact h x hx
theorem Stp.one {lvl:Nat} {l:List Tk} (h:Stp lvl l) {ws:List (List UInt8)} (hs:∀ w∈ws,w∈banW lvl):oneOf ws l=none:=one_none fun w hw=>h w (hs w hw)
theorem Stp.up {a b:Nat} {l:List Tk} (h:Stp a l) (hs:∀ w∈banW b,w∈banW a):Stp b l:=fun w hw=>h w (hs w hw)
theorem stp_of {lvl:Nat} {tk:Tk} {x:List UInt8} {r:List Tk} (h:tk.er=wd x∨tk.er=sg x) (hx:x ∉ banW lvl):Stp lvl (tk::r):=fun w hw=>by
 rw [isW_er h]
 cases e:x==w with
 | false=>rfl
 | true=>rw [beq_iff_eq] at e; exact absurd (e ▸ hw) hx
theorem stp_tz {lvl:Nat} {tk:Tk} {x:List UInt8} {r:List Tk} (h:tk.er=tz x) (hx:x ∉ banW lvl):Stp lvl (tk::r):=by
 unfold tz at h
 split at h
 ·exact stp_of (.inl h) hx
 ·exact stp_of (.inr h) hx
theorem reads_up {lvl:Nat} {L rest:List Tk} {t:Tm} (hl:lvl<7) (h:Reads (lvl+1) L t rest) (hs:Stp lvl rest) (h2:lvl=2→isW wNot L=false) (h6:lvl=6→isW wMinus L=false):Reads lvl L t rest:=by
 obtain ⟨n0,h⟩:=h
 refine ⟨n0+1,fun n hn=>?_⟩
 obtain ⟨m,rfl⟩:∃ m,n=m+1:=⟨n - 1,by omega⟩
 have hm:=h m (by omega)
 have chn:∀ (p:List Tk→Res Tm) (sgs:List (List UInt8)) (ops:List Int) (k:Nat),oneOf sgs rest=none→chainS p sgs ops k t rest=.ok (t,rest):=fun p sgs ops k h=>by
  cases k with
  | zero=>rfl
  | succ k=>rw [chainS,h]
 match lvl,hl with
 | 0,_ =>
   rw [parP,hm]
   exact chn _ _ _ _ (hs.one (by decide))
 | 1,_ =>
   rw [parP,hm]
   exact chn _ _ _ _ (hs.one (by decide))
 | 2,_ =>
   rw [parP,h2 rfl]
   exact hm
 | 3,_ =>
   rw [parP,hm]
   show (match oneOf cmpW rest with
    | some i=>mapT (fun b=>mkT (14+i) [t,b]) (parP m 4 rest.tail)
    | none=>_)=_
   rw [hs.one (ws:=cmpW) (by decide),hs wIs (by decide),hs wIn (by decide)]
   rfl
 | 4,_ =>
   rw [parP,hm]
   exact chn _ _ _ _ (hs.one (by decide))
 | 5,_ =>
   rw [parP,hm]
   exact chn _ _ _ _ (hs.one (by decide))
 | 6,_ =>
   rw [parP,h6 rfl]
   exact hm
theorem ban_sub0:∀ a b:Fin 8,a.1≤b.1→(banW b.1).all (fun w=>(banW a.1).contains w)=true:=by decide
theorem ban_sub (a:Nat) (ha:a≤7) (b:Nat) (hb:b≤7) (h:a≤b):∀ w∈banW b,w∈banW a:=fun w hw=>by
 have:=List.all_eq_true.1 (ban_sub0 ⟨a,by omega⟩ ⟨b,by omega⟩ h) w hw
 simpa using this
theorem reads_down {L rest:List Tk} {t:Tm}:∀ (d r lvl:Nat),r≤7→lvl+d=r→Reads r L t rest→Stp lvl rest→(lvl≤2→2<r→isW wNot L=false)→(lvl≤6→6<r→isW wMinus L=false)→Reads lvl L t rest
 | 0,r,lvl,h7,e,h,_,_,_=>by
   obtain rfl:lvl=r:=by omega
   exact h
 | d+1,r,lvl,h7,e,h,hs,h2,h6=>by
   have h1:=reads_down d r (lvl+1) h7 (by omega) h (hs.up (ban_sub lvl (by omega) (lvl+1) (by omega) (by omega))) (fun a b=>h2 (by omega) b) (fun a b=>h6 (by omega) b)
   exact reads_up (by omega) h1 hs (fun e=>h2 (by omega) (by omega)) (fun e=>h6 (by omega) (by omega))
def lvS:Nat→List (List UInt8)
 | 0=>[wOr]
 | 1=>[wAnd]
 | 4=>addW
 | 5=>mulW
 | _=>[]
def lvO:Nat→List Int
 | 0=>[23]
 | 1=>[22]
 | 4=>[6,7,12]
 | 5=>[8,9,10]
 | _=>[]
def plc (want r:Nat) (w:List Tz):List Tz:=if r<want then sg wOpen::(w++[sg wShut]) else w
def commas:List (List Tz)→List Tz
 | []=>[]
 | [w]=>w
 | w::ws=>w++(sg wComma::commas ws)
def aggN (n:Int):List Tz:=if n=2 then [wd wCount,sg wOpen] else if n=3 then [wd wCount,sg wOpen,wd wDistinct] else if n=4 then [wd wSum,sg wOpen] else if n=5 then [wd wMin,sg wOpen] else [wd wMax,sg wOpen]
def typW (y:Int):List UInt8:=if y=1 then wInt else if y=2 then wBool else wText
def posN:Tm→Bool
 | .mk o _ n _ _ _=>o==2&&decide (0<n)
mutual
/-- The tokens of a term, and its rank. -/
inductive WT:Tm→Nat→List Tz→Prop
 | chn {r i:Nat} {a b:Tm} {ra rb:Nat} {wa wb:List Tz} (hr:r=0∨r=1∨r=4∨r=5) (hi:i<(lvS r).length) (ha:WT a ra wa) (hb:WT b rb wb) :
   WT (mkT (((lvO r)[i]?).getD 0) [a,b]) r (plc r ra wa++(tz (((lvS r)[i]?).getD [])::plc (r+1) rb wb))
 | cmp {i:Nat} {a b:Tm} {ra rb:Nat} {wa wb:List Tz} (hi:i<7) (ha:WT a ra wa) (hb:WT b rb wb):WT (mkT (14+i) [a,b]) 3 (plc 4 ra wa++(tz ((cmpW[i]?).getD [])::plc 4 rb wb))
 | no {a:Tm} {ra:Nat} {wa:List Tz} (ha:WT a ra wa):WT (mkT 24 [a]) 2 (wd wNot::plc 2 ra wa)
 | isNull {a:Tm} {ra:Nat} {wa:List Tz} (ha:WT a ra wa):WT (mkT 21 [a]) 3 (plc 4 ra wa++[wd wIs,wd wNull])
 | isTrue {a:Tm} {ra:Nat} {wa:List Tz} (ha:WT a ra wa):WT (mkT 25 [a]) 3 (plc 4 ra wa++[wd wIs,wd wTrue])
 | isIn {a:Tm} {ra:Nat} {wa:List Tz} {ks:List Tm} {ws:List (List Tz)} (ha:WT a ra wa) (hk:WTs ks ws) (hn:ks ≠ []):WT (mkT 28 (a::ks)) 3 (plc 4 ra wa++(wd wIn::sg wOpen::(commas ws++[sg wShut])))
 | negP {a:Tm} {ra:Nat} {wa:List Tz} (ha:WT a ra wa):WT (mkT 11 [a]) 6 (sg wMinus::sg wOpen::(wa++[sg wShut]))
 | neg {a:Tm} {ra:Nat} {wa:List Tz} (ha:WT a ra wa) (hp:posN a=false):WT (mkT 11 [a]) 6 (sg wMinus::plc 6 ra wa)
 | len {a:Tm} {ra:Nat} {wa:List Tz} (ha:WT a ra wa):WT (mkT 13 [a]) 7 (wd wLength::sg wOpen::(wa++[sg wShut]))
 | coal {a b:Tm} {ra rb:Nat} {wa wb:List Tz} (ha:WT a ra wa) (hb:WT b rb wb):WT (mkT 27 [a,b]) 7 (wd wCoalesce::sg wOpen::(wa++(sg wComma::(wb++[sg wShut]))))
 | case {a b c:Tm} {ra rb rc:Nat} {wa wb wc:List Tz} (ha:WT a ra wa) (hb:WT b rb wb) (hc:WT c rc wc) :
   WT (mkT 26 [a,b,c]) 7 (wd wCase::wd wWhen::(wa++(wd wThen::(wb++(wd wElse::(wc++[wd wEnd]))))))
 | rows:WT (.mk 41 0 1 [] [] []) 7 [wd wCount,sg wOpen,sg wStar,sg wShut]
 | agg {n:Int} {a:Tm} {ra:Nat} {wa:List Tz} (hn:2≤n∧n≤6) (ha:WT a ra wa):WT (.mk 41 0 n [] [] [a]) 7 (aggN n++(wa++[sg wShut]))
 | null {y:Int} (hy:1≤y∧y≤3):WT (.mk 1 y 0 [] [] []) 7 [wd wNull,wd (typW y)]
 | int {n:Int} {w:List UInt8} (h0:0≤n) (hw:n=0→w=[48]):WT (.mk 2 0 n [] [] []) 7 [(2,w,w,n)]
 | intN {n:Int} {w:List UInt8} (h0:n<0) (h1:-1000000000000≤n) (hw:w ≠ [48]):WT (.mk 2 0 n [] [] []) 6 [sg wMinus,(2,w,w,-n)]
 | tru:WT (.mk 3 0 1 [] [] []) 7 [wd wTrue]
 | fls:WT (mkT 3 []) 7 [wd wFalse]
 | text {t w:List UInt8}:WT (.mk 4 0 0 t [] []) 7 [(3,w,t,0)]
 | name {t:List UInt8} (ht:nameOk rsv t=true):WT (.mk 40 0 0 t [] []) 7 [wd t]
 | qual {t q:List UInt8} (ht:nameOk rsv t=true) (hq:nameOk rsv q=true):WT (.mk 40 0 0 t q []) 7 [wd q,sg wDot,wd t]
inductive WTs:List Tm→List (List Tz)→Prop
 | nil:WTs [] []
 | cons {a:Tm} {ra:Nat} {wa:List Tz} {ks:List Tm} {ws:List (List Tz)} (ha:WT a ra wa) (hk:WTs ks ws):WTs (a::ks) (wa::ws)
end
theorem er_app {l:List Tk} {w1 w2:List Tz} (h:er l=w1++w2):∃ l1 l2,l=l1++l2∧er l1=w1∧er l2=w2:=by
 obtain ⟨l1,l2,e,h1,h2⟩:=List.map_eq_append_iff.1 h
 exact ⟨l1,l2,e,h1,h2⟩
theorem er_cons {l:List Tk} {x:Tz} {w:List Tz} (h:er l=x::w):∃ t l2,l=t::l2∧t.er=x∧er l2=w:=by
 obtain ⟨t,l2,e,h1,h2⟩:=List.map_eq_cons_iff.1 h
 exact ⟨t,l2,e,h1,h2⟩
theorem er_nil {l:List Tk} (h:er l=[]):l=[]:=List.map_eq_nil_iff.1 h
def hdOk (r:Nat) (z:Tz):Bool :=
 let x:=z.2.1
 if z.1==2 then true else if z.1==3 then true else (z.1==1||z.1==4)&&(x != wStar&&(x != wDistinct&&((r≤2||x != wNot)&&(r≤6||x != wMinus))))
def HdOk (r:Nat) (w:List Tz):Prop:=∃ z w',w=z::w'∧hdOk r z=true
theorem hdOk_up {r q:Nat} {z:Tz} (h:hdOk r z=true) (hq:q≤r):hdOk q z=true:=by
 unfold hdOk at *
 by_cases k2:z.1=2
 ·simp [k2]
 by_cases k3:z.1=3
 ·simp [k3]
 simp only [beq_iff_eq,k2,k3,if_false,Bool.and_eq_true,Bool.or_eq_true,decide_eq_true_eq] at *
 obtain ⟨a,b,c,d,e⟩:=h
 refine ⟨a,b,c,?_,?_⟩
 ·rcases d with d | d
  ·exact .inl (by omega)
  ·exact .inr d
 ·rcases e with d | d
  ·exact .inl (by omega)
  ·exact .inr d
theorem HdOk.isW {r:Nat} {w:List Tz} (h:HdOk r w) {l:List Tk} (hl:er l=w) (rest:List Tk) :
  isW wStar (l++rest)=false∧isW wDistinct (l++rest)=false∧(2<r→isW wNot (l++rest)=false)∧(6<r→isW wMinus (l++rest)=false):=by
 obtain ⟨z,w',rfl,hz⟩:=h
 obtain ⟨t,l2,rfl,ht,_⟩:=er_cons hl
 unfold Tk.er at ht
 subst ht
 have e:∀ w,Go.Proofs.Tryz.isW w (t::l2++rest)=((t.kd==1||t.kd==4)&&t.rw==w):=fun _=>rfl
 simp only [e]
 unfold hdOk at hz
 by_cases k2:t.kd=2
 ·simp [k2]
 by_cases k3:t.kd=3
 ·simp [k3]
 simp only [beq_iff_eq,k2,k3,if_false,Bool.and_eq_true,Bool.or_eq_true,decide_eq_true_eq,bne_iff_ne,ne_eq] at hz
 obtain ⟨_,h1,h2,h3,h4⟩:=hz
 have f:∀ w,¬ t.rw=w→((t.kd==1||t.kd==4)&&t.rw==w)=false:=fun w hw=>by
  rw [show (t.rw==w)=false from by simpa using hw,Bool.and_false]
 refine ⟨f _ h1,f _ h2,fun hr=>f _ ?_,fun hr=>f _ ?_⟩
 ·rcases h3 with h | h
  ·omega
  ·exact h
 ·rcases h4 with h | h
  ·omega
  ·exact h
def ChR (r:Nat) (l:List Tk) (t:Tm) (rest:List Tk):Prop :=
 ∃ t0 l0 c,Reads (r+1) l t0 l0∧rest.length+c≤l0.length∧∃ n0,∀ n,n0≤n→∀ k,chainS (parP n (r+1)) (lvS r) (lvO r) (k+c) t0 l0=chainS (parP n (r+1)) (lvS r) (lvO r) k t rest
structure Back (t:Tm) (r:Nat) (w:List Tz):Prop where
 rk:r≤7
 hd:HdOk r w
 rd:∀ l rest,er l=w→∀ lvl,lvl≤r→Stp lvl rest→Reads lvl (l++rest) t rest
 ch:(r=0∨r=1∨r=4∨r=5)→∀ l rest,er l=w→Stp (r+1) rest→ChR r (l++rest) t rest
theorem back_of {t:Tm} {r:Nat} {w:List Tz} (hr:r≤7) (hd:HdOk r w) (h:∀ l rest,er l=w→Stp r rest→Reads r (l++rest) t rest):∀ l rest,er l=w→∀ lvl,lvl≤r→Stp lvl rest→Reads lvl (l++rest) t rest:=by
 intro l rest hl lvl hv hs
 obtain ⟨_,_,h3,h4⟩:=hd.isW hl rest
 exact reads_down (r - lvl) r lvl hr (by omega) (h l rest hl (hs.up (ban_sub lvl (by omega) r hr hv))) hs (fun _ b=>h3 b) (fun _ b=>h4 b)
theorem stp_shut (lvl:Nat) {tk:Tk} (h:tk.er=sg wShut) (r:List Tk):Stp lvl (tk::r):=stp_of (.inr h) (by
 match lvl with
 | 0=>decide
 | 1=>decide
 | 2=>decide
 | 3=>decide
 | 4=>decide
 | 5=>decide
 | n+6=>exact (by decide:wShut ∉ [wDot]))
theorem exp_one {w:List UInt8} {tk:Tk} {r:List Tk} (h:isW w (tk::r)=true):expS [w] (tk::r)=.ok r:=by
 rw [expS,if_pos h]; rfl
theorem kd_wd {tk:Tk} {x:List UInt8} (h:tk.er=wd x∨tk.er=sg x):¬ tk.kd=2∧¬ tk.kd=3:=by
 unfold Tk.er wd sg at h
 rcases h with h | h <;> (simp only [Prod.mk.injEq] at h; omega)
theorem reads_par {a:Tm} {ra:Nat} {wa:List Tz} (h:Back a ra wa) {l:List Tk} (hl:er l=sg wOpen::(wa++[sg wShut])) (rest:List Tk):Reads 7 (l++rest) a rest:=by
 obtain ⟨t1,l1,rfl,h1,hl⟩:=er_cons hl
 obtain ⟨l2,l3,rfl,h2,hl⟩:=er_app hl
 obtain ⟨t4,l4,rfl,h4,hl⟩:=er_cons hl
 rw [er_nil hl]
 obtain ⟨n0,hr⟩:=h.rd l2 (t4::rest) h2 0 (Nat.zero_le _) (stp_shut 0 h4 rest)
 refine ⟨n0+1,fun n hn=>?_⟩
 obtain ⟨m,rfl⟩:∃ m,n=m+1:=⟨n - 1,by omega⟩
 have hm:=hr m (by omega)
 obtain ⟨k2,k3⟩:=kd_wd (.inr h1)
 have q:=fun w=>isW_er (.inr h1) (l2++t4::rest) w
 have e:(t1::(l2++[t4])++rest)=t1::(l2++t4::rest):=by simp
 rw [e,parP,if_neg k2,if_neg k3,q,q,q,q,if_neg (by decide),if_neg (by decide),if_neg (by decide),if_pos (by decide),hm]
 show bind1 (expS [wShut] (t4::rest)) _=_
 rw [exp_one (by rw [isW_er (.inr h4)]; decide)]
 rfl
theorem hd_par {r:Nat} {wa:List Tz}:HdOk r (sg wOpen::wa):=⟨_,_,rfl,by
 unfold hdOk sg
 simp
 refine ⟨by decide,by decide,?_,?_⟩
 ·right; decide
 ·right; decide⟩
theorem plc_back {a:Tm} {ra:Nat} {wa:List Tz} (h:Back a ra wa) {want:Nat} (hw:want≤7):HdOk want (plc want ra wa)∧∀ l rest,er l=plc want ra wa→Stp want rest→Reads want (l++rest) a rest:=by
 unfold plc
 split
 ·refine ⟨hd_par,fun l rest hl hs=>?_⟩
  have h7:=reads_par h hl rest
  obtain ⟨_,_,h3,h4⟩:=(hd_par (r:=7) (wa:=wa++[sg wShut])).isW hl rest
  exact reads_down (7 - want) 7 want (by omega) (by omega) h7 hs (fun _ _=>h3 (by omega)) (fun _ _=>h4 (by omega))
 ·rename_i hlt
  refine ⟨?_,fun l rest hl hs=>h.rd l rest hl want (by omega) hs⟩
  obtain ⟨z,w',e,hz⟩:=h.hd
  exact ⟨z,w',e,hdOk_up hz (by omega)⟩
theorem plc_ch {a:Tm} {ra:Nat} {wa:List Tz} (h:Back a ra wa) {r:Nat} (hr:r=0∨r=1∨r=4∨r=5):∀ l rest,er l=plc r ra wa→Stp (r+1) rest→ChR r (l++rest) a rest:=by
 intro l rest hl hs
 by_cases he:ra=r
 ·subst he
  unfold plc at hl
  rw [if_neg (by omega)] at hl
  exact h.ch hr l rest hl hs
 ·have:Reads (r+1) (l++rest) a rest:=by
   unfold plc at hl
   split at hl
   ·have h7:=reads_par h hl rest
    obtain ⟨_,_,h3,h4⟩:=(hd_par (r:=7) (wa:=wa++[sg wShut])).isW hl rest
    exact reads_down (7 - (r+1)) 7 (r+1) (by omega) (by omega) h7 hs (fun _ _=>h3 (by omega)) (fun _ _=>h4 (by omega))
   ·exact h.rd l rest hl (r+1) (by omega) hs
  exact ⟨a,rest,0,this,by omega,0,fun n _ k=>rfl⟩
theorem chain_end {p:List Tk→Res Tm} {r:Nat} {rest:List Tk} (h:oneOf (lvS r) rest=none) (k:Nat) (t:Tm):chainS p (lvS r) (lvO r) k t rest=.ok (t,rest):=by
 cases k with
 | zero=>rfl
 | succ k=>rw [chainS,h]
theorem lv_ban {r:Nat} (hr:r=0∨r=1∨r=4∨r=5):∀ w∈lvS r,w∈banW r:=by
 rcases hr with rfl | rfl | rfl | rfl <;> decide
theorem ch_reads {r:Nat} (hr:r=0∨r=1∨r=4∨r=5) {l rest:List Tk} {t:Tm} (h:ChR r l t rest) (hs:Stp r rest):Reads r l t rest:=by
 obtain ⟨t0,l0,c,⟨n1,h1⟩,hlen,n2,h2⟩:=h
 refine ⟨max n1 n2+1,fun n hn=>?_⟩
 obtain ⟨m,rfl⟩:∃ m,n=m+1:=⟨n - 1,by omega⟩
 have e1:=h1 m (by omega)
 have e2:=h2 m (by omega) (l0.length - c)
 rw [Nat.sub_add_cancel (by omega),chain_end (hs.one (lv_ban hr))] at e2
 rcases hr with rfl | rfl | rfl | rfl <;> (rw [parP,e1]; exact e2)
theorem op_stp {r i:Nat} (hr:r=0∨r=1∨r=4∨r=5) (hi:i<(lvS r).length):((lvS r)[i]?).getD [] ∉ banW (r+1)∧(lvS r).findIdx? (fun w=>((lvS r)[i]?).getD []==w)=some i:=by
 rcases hr with rfl | rfl | rfl | rfl
 ·have:i=0:=by simp [lvS] at hi; omega
  subst this; decide
 ·have:i=0:=by simp [lvS] at hi; omega
  subst this; decide
 ·have:i=0∨i=1∨i=2:=by simp [lvS,addW] at hi; omega
  rcases this with rfl | rfl | rfl <;> decide
 ·have:i=0∨i=1∨i=2:=by simp [lvS,mulW] at hi; omega
  rcases this with rfl | rfl | rfl <;> decide
theorem one_tz {ws:List (List UInt8)} {tk:Tk} {x:List UInt8} {i:Nat} (h:tk.er=tz x) (hx:ws.findIdx? (fun w=>x==w)=some i) (r:List Tk):oneOf ws (tk::r)=some i:=by
 unfold oneOf
 have:(fun w=>isW w (tk::r))=fun w=>x==w:=by funext w; exact isW_tz h r w
 rw [this]
 exact hx
theorem hd_app {r:Nat} {w v:List Tz} (h:HdOk r w):HdOk r (w++v):=by
 obtain ⟨z,w',rfl,hz⟩:=h
 exact ⟨z,w'++v,rfl,hz⟩
theorem back_chn {r i:Nat} {a b:Tm} {ra rb:Nat} {wa wb:List Tz} (hr:r=0∨r=1∨r=4∨r=5) (hi:i<(lvS r).length) (ha:Back a ra wa) (hb:Back b rb wb) :
  Back (mkT (((lvO r)[i]?).getD 0) [a,b]) r (plc r ra wa++(tz (((lvS r)[i]?).getD [])::plc (r+1) rb wb)):=by
 have hr7:r≤7:=by omega
 have hch:∀ l rest,er l=plc r ra wa++(tz (((lvS r)[i]?).getD [])::plc (r+1) rb wb)→Stp (r+1) rest→ChR r (l++rest) (mkT (((lvO r)[i]?).getD 0) [a,b]) rest:=by
  intro l rest hl hs
  obtain ⟨l1,l2,rfl,h1,hl⟩:=er_app hl
  obtain ⟨tk,l3,rfl,h2,h3⟩:=er_cons hl
  obtain ⟨o1,o2⟩:=op_stp hr hi
  obtain ⟨t0,l0,c,hR,hlen,n2,hc⟩:=plc_ch ha hr l1 (tk::(l3++rest)) h1 (stp_tz h2 o1)
  obtain ⟨n1,hbr⟩:=(plc_back hb (want:=r+1) (by omega)).2 l3 rest h3 hs
  refine ⟨t0,l0,c+1,by simpa using hR,by simp at hlen; omega,max n1 n2,fun n hn k=>?_⟩
  have e:=hc n (by omega) (k+1)
  rw [show k+1+c=k+(c+1) from by omega] at e
  rw [e,chainS,one_tz h2 o2]
  simp only [List.tail_cons]
  rw [hbr n (by omega)]
 refine ⟨hr7,hd_app (plc_back ha hr7).1,back_of hr7 (hd_app (plc_back ha hr7).1) fun l rest hl hs=>ch_reads hr (hch l rest hl (hs.up (ban_sub r hr7 (r+1) (by omega) (by omega)))) hs,fun _=>hch⟩
end Go.Proofs.Tryz
