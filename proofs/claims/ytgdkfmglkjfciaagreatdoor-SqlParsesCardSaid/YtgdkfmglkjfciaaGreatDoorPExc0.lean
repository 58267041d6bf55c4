import Derived.Test.YtgdkfmglkjfciaaGreatDoorPShy
import Derived.Test.YtgdkfmglkjfciaaGreatDoorTy
import Derived.Test.YtgdkfmglkjfciaaGreatDoorAbB
import Derived.Lib.ItoaNum
import Derived.Test.YtgdkfmglkjfciaaGreatDoorPVpa
import Derived.Test.YtgdkfmglkjfciaaGreatDoorPShb
set_option linter.all false
namespace Go.Proofs.Tryz
open Go.Ab
set_option maxRecDepth 100000
set_option maxHeartbeats 8000000
abbrev Tz:=Int×List UInt8×List UInt8×Int
def Tk.er (t:Tk):Tz:=(t.kd,t.rw,t.tx,t.n)
def er (l:List Tk):List Tz:=l.map Tk.er
def wd (w:List UInt8):Tz:=(1,w,w,0)
def sg (w:List UInt8):Tz:=(4,w,w,0)
def isWd (w:List UInt8):Bool:=match w with
 | c::_=>lowr c
 | []=>false
def tz (w:List UInt8):Tz:=if isWd w=true then wd w else sg w
theorem isW_er {tk:Tk} {x:List UInt8} (h:tk.er=wd x∨tk.er=sg x) (r:List Tk) (w:List UInt8):isW w (tk::r)=(x==w):=by
 unfold Tk.er wd sg at h
 show ((tk.kd==1||tk.kd==4)&&tk.rw==w)=_
 rcases h with h | h <;> (simp only [Prod.mk.injEq] at h; obtain ⟨h1,h2,_⟩:=h; rw [h1,h2]; simp)
theorem isW_tz {tk:Tk} {x:List UInt8} (h:tk.er=tz x) (r:List Tk) (w:List UInt8):isW w (tk::r)=(x==w):=by
 unfold tz at h
 split at h
 ·exact isW_er (.inl h) r w
 ·exact isW_er (.inr h) r w
def banW:Nat→List (List UInt8)
 | 0=>wOr::wAnd::(cmpW++(wIs::wIn::(addW++(mulW++[wDot]))))
 | 1=>wAnd::(cmpW++(wIs::wIn::(addW++(mulW++[wDot]))))
 | 2=>cmpW++(wIs::wIn::(addW++(mulW++[wDot])))
 | 3=>cmpW++(wIs::wIn::(addW++(mulW++[wDot])))
 | 4=>addW++(mulW++[wDot])
 | 5=>mulW++[wDot]
 | _=>[wDot]
def Stp (lvl:Nat) (l:List Tk):Prop:=∀ w∈banW lvl,isW w l=false
theorem one_none {ws:List (List UInt8)} {l:List Tk} (h:∀ w∈ws,isW w l=false):oneOf ws l=none:=by
 unfold oneOf
 rw [List.findIdx?_eq_none_iff]
 intro x hx
 exact h x hx
theorem Stp.one {lvl:Nat} {l:List Tk} (h:Stp lvl l) {ws:List (List UInt8)} (hs:∀ w∈ws,w∈banW lvl):oneOf ws l=none:=one_none fun w hw=>h w (hs w hw)
theorem Stp.up {a b:Nat} {l:List Tk} (h:Stp a l) (hs:∀ w∈banW b,w∈banW a):Stp b l:=fun w hw=>h w (hs w hw)
theorem stp_of {lvl:Nat} {tk:Tk} {x:List UInt8} {r:List Tk} (h:tk.er=wd x∨tk.er=sg x) (hx:x ∉ banW lvl):Stp lvl (tk::r):=fun w hw=>by
 rw [isW_er h]
 cases e:x==w with
 | false=>rfl
 | true=>rw [beq_iff_eq] at e; exact absurd (e ▸ hw) hx
theorem stp_tz {lvl:Nat} {tk:Tk} {x:List UInt8} {r:List Tk} (h:tk.er=tz x) (hx:x ∉ banW lvl):Stp lvl (tk::r):=by
 unfold tz at h
 split at h
 ·exact stp_of (.inl h) hx
 ·exact stp_of (.inr h) hx
theorem reads_up {lvl:Nat} {L rest:List Tk} {t:Tm} (hl:lvl<7) (h:Reads (lvl+1) L t rest) (hs:Stp lvl rest) (h2:lvl=2→isW wNot L=false) (h6:lvl=6→isW wMinus L=false):Reads lvl L t rest:=by
 obtain ⟨n0,h⟩:=h
 refine ⟨n0+1,fun n hn=>?_⟩
 obtain ⟨m,rfl⟩:∃ m,n=m+1:=⟨n - 1,by omega⟩
 have hm:=h m (by omega)
 have chn:∀ (p:List Tk→Res Tm) (sgs:List (List UInt8)) (ops:List Int) (k:Nat),oneOf sgs rest=none→chainS p sgs ops k t rest=.ok (t,rest):=fun p sgs ops k h=>by
  cases k with
  | zero=>rfl
  | succ k=>rw [chainS,h]
 match lvl,hl with
 | 0,_ =>
   rw [parP,hm]
   exact chn _ _ _ _ (hs.one (by decide))
 | 1,_ =>
   rw [parP,hm]
   exact chn _ _ _ _ (hs.one (by decide))
 | 2,_ =>
   rw [parP,h2 rfl]
   exact hm
 | 3,_ =>
   rw [parP,hm]
   show (match oneOf cmpW rest with
    | some i=>mapT (fun b=>mkT (14+i) [t,b]) (parP m 4 rest.tail)
    | none=>_)=_
   rw [hs.one (ws:=cmpW) (by decide),hs wIs (by decide),hs wIn (by decide)]
   rfl
 | 4,_ =>
   rw [parP,hm]
   exact chn _ _ _ _ (hs.one (by decide))
 | 5,_ =>
   rw [parP,hm]
   exact chn _ _ _ _ (hs.one (by decide))
 | 6,_ =>
   rw [parP,h6 rfl]
   exact hm
theorem ban_sub0:∀ a b:Fin 8,a.1≤b.1→(banW b.1).all (fun w=>(banW a.1).contains w)=true:=by decide
theorem ban_sub (a:Nat) (ha:a≤7) (b:Nat) (hb:b≤7) (h:a≤b):∀ w∈banW b,w∈banW a:=fun w hw=>by
 have:=List.all_eq_true.1 (ban_sub0 ⟨a,by omega⟩ ⟨b,by omega⟩ h) w hw
 simpa using this
theorem reads_down {L rest:List Tk} {t:Tm}:∀ (d r lvl:Nat),r≤7→lvl+d=r→Reads r L t rest→Stp lvl rest→(lvl≤2→2<r→isW wNot L=false)→(lvl≤6→6<r→isW wMinus L=false)→Reads lvl L t rest
 | 0,r,lvl,h7,e,h,_,_,_=>by
   obtain rfl:lvl=r:=by omega
   exact h
 | d+1,r,lvl,h7,e,h,hs,h2,h6=>by
   have h1:=reads_down d r (lvl+1) h7 (by omega) h (hs.up (ban_sub lvl (by omega) (lvl+1) (by omega) (by omega))) (fun a b=>h2 (by omega) b) (fun a b=>h6 (by omega) b)
   exact reads_up (by omega) h1 hs (fun e=>h2 (by omega) (by omega)) (fun e=>h6 (by omega) (by omega))
def lvS:Nat→List (List UInt8)
 | 0=>[wOr]
 | 1=>[wAnd]
 | 4=>addW
 | 5=>mulW
 | _=>[]
def lvO:Nat→List Int
 | 0=>[23]
 | 1=>[22]
 | 4=>[6,7,12]
 | 5=>[8,9,10]
 | _=>[]
def plc (want r:Nat) (w:List Tz):List Tz:=if r<want then sg wOpen::(w++[sg wShut]) else w
def commas:List (List Tz)→List Tz
 | []=>[]
 | [w]=>w
 | w::ws=>w++(sg wComma::commas ws)
def aggN (n:Int):List Tz:=if n=2 then [wd wCount,sg wOpen] else if n=3 then [wd wCount,sg wOpen,wd wDistinct] else if n=4 then [wd wSum,sg wOpen] else if n=5 then [wd wMin,sg wOpen] else [wd wMax,sg wOpen]
def typW (y:Int):List UInt8:=if y=1 then wInt else if y=2 then wBool else wText
def posN:Tm→Bool
 | .mk o _ n _ _ _=>o==2&&decide (0<n)
mutual
/-- The tokens of a term, and its rank. -/
inductive WT:Tm→Nat→List Tz→Prop
 | chn {r i:Nat} {a b:Tm} {ra rb:Nat} {wa wb:List Tz} (hr:r=0∨r=1∨r=4∨r=5) (hi:i<(lvS r).length) (ha:WT a ra wa) (hb:WT b rb wb) :
   WT (mkT (((lvO r)[i]?).getD 0) [a,b]) r (plc r ra wa++(tz (((lvS r)[i]?).getD [])::plc (r+1) rb wb))
 | cmp {i:Nat} {a b:Tm} {ra rb:Nat} {wa wb:List Tz} (hi:i<7) (ha:WT a ra wa) (hb:WT b rb wb):WT (mkT (14+i) [a,b]) 3 (plc 4 ra wa++(tz ((cmpW[i]?).getD [])::plc 4 rb wb))
 | no {a:Tm} {ra:Nat} {wa:List Tz} (ha:WT a ra wa):WT (mkT 24 [a]) 2 (wd wNot::plc 2 ra wa)
 | isNull {a:Tm} {ra:Nat} {wa:List Tz} (ha:WT a ra wa):WT (mkT 21 [a]) 3 (plc 4 ra wa++[wd wIs,wd wNull])
 | isTrue {a:Tm} {ra:Nat} {wa:List Tz} (ha:WT a ra wa):WT (mkT 25 [a]) 3 (plc 4 ra wa++[wd wIs,wd wTrue])
 | isIn {a:Tm} {ra:Nat} {wa:List Tz} {ks:List Tm} {ws:List (List Tz)} (ha:WT a ra wa) (hk:WTs ks ws) (hn:ks ≠ []):WT (mkT 28 (a::ks)) 3 (plc 4 ra wa++(wd wIn::sg wOpen::(commas ws++[sg wShut])))
 | negP {a:Tm} {ra:Nat} {wa:List Tz} (ha:WT a ra wa):WT (mkT 11 [a]) 6 (sg wMinus::sg wOpen::(wa++[sg wShut]))
 | neg {a:Tm} {ra:Nat} {wa:List Tz} (ha:WT a ra wa) (hp:posN a=false):WT (mkT 11 [a]) 6 (sg wMinus::plc 6 ra wa)
 | len {a:Tm} {ra:Nat} {wa:List Tz} (ha:WT a ra wa):WT (mkT 13 [a]) 7 (wd wLength::sg wOpen::(wa++[sg wShut]))
 | coal {a b:Tm} {ra rb:Nat} {wa wb:List Tz} (ha:WT a ra wa) (hb:WT b rb wb):WT (mkT 27 [a,b]) 7 (wd wCoalesce::sg wOpen::(wa++(sg wComma::(wb++[sg wShut]))))
 | case {a b c:Tm} {ra rb rc:Nat} {wa wb wc:List Tz} (ha:WT a ra wa) (hb:WT b rb wb) (hc:WT c rc wc) :
   WT (mkT 26 [a,b,c]) 7 (wd wCase::wd wWhen::(wa++(wd wThen::(wb++(wd wElse::(wc++[wd wEnd]))))))
 | rows:WT (.mk 41 0 1 [] [] []) 7 [wd wCount,sg wOpen,sg wStar,sg wShut]
 | agg {n:Int} {a:Tm} {ra:Nat} {wa:List Tz} (hn:2≤n∧n≤6) (ha:WT a ra wa):WT (.mk 41 0 n [] [] [a]) 7 (aggN n++(wa++[sg wShut]))
 | null {y:Int} (hy:1≤y∧y≤3):WT (.mk 1 y 0 [] [] []) 7 [wd wNull,wd (typW y)]
 | int {n:Int} {w:List UInt8} (h0:0≤n) (hw:n=0→w=[48]):WT (.mk 2 0 n [] [] []) 7 [(2,w,w,n)]
 | intN {n:Int} {w:List UInt8} (h0:n<0) (h1:-1000000000000≤n) (hw:w ≠ [48]):WT (.mk 2 0 n [] [] []) 6 [sg wMinus,(2,w,w,-n)]
 | tru:WT (.mk 3 0 1 [] [] []) 7 [wd wTrue]
 | fls:WT (mkT 3 []) 7 [wd wFalse]
 | text {t w:List UInt8}:WT (.mk 4 0 0 t [] []) 7 [(3,w,t,0)]
 | name {t:List UInt8} (ht:nameOk rsv t=true):WT (.mk 40 0 0 t [] []) 7 [wd t]
 | qual {t q:List UInt8} (ht:nameOk rsv t=true) (hq:nameOk rsv q=true):WT (.mk 40 0 0 t q []) 7 [wd q,sg wDot,wd t]
inductive WTs:List Tm→List (List Tz)→Prop
 | nil:WTs [] []
 | cons {a:Tm} {ra:Nat} {wa:List Tz} {ks:List Tm} {ws:List (List Tz)} (ha:WT a ra wa) (hk:WTs ks ws):WTs (a::ks) (wa::ws)
end
theorem er_app {l:List Tk} {w1 w2:List Tz} (h:er l=w1++w2):∃ l1 l2,l=l1++l2∧er l1=w1∧er l2=w2:=by
 obtain ⟨l1,l2,e,h1,h2⟩:=List.map_eq_append_iff.1 h
 exact ⟨l1,l2,e,h1,h2⟩
theorem er_cons {l:List Tk} {x:Tz} {w:List Tz} (h:er l=x::w):∃ t l2,l=t::l2∧t.er=x∧er l2=w:=by
 obtain ⟨t,l2,e,h1,h2⟩:=List.map_eq_cons_iff.1 h
 exact ⟨t,l2,e,h1,h2⟩
theorem er_nil {l:List Tk} (h:er l=[]):l=[]:=List.map_eq_nil_iff.1 h
def hdOk (r:Nat) (z:Tz):Bool :=
 let x:=z.2.1
 if z.1==2 then true else if z.1==3 then true else (z.1==1||z.1==4)&&(x != wStar&&(x != wDistinct&&((r≤2||x != wNot)&&(r≤6||x != wMinus))))
def HdOk (r:Nat) (w:List Tz):Prop:=∃ z w',w=z::w'∧hdOk r z=true
theorem hdOk_up {r q:Nat} {z:Tz} (h:hdOk r z=true) (hq:q≤r):hdOk q z=true:=by
 unfold hdOk at *
 by_cases k2:z.1=2
 ·simp [k2]
 by_cases k3:z.1=3
 ·simp [k3]
 simp only [beq_iff_eq,k2,k3,if_false,Bool.and_eq_true,Bool.or_eq_true,decide_eq_true_eq] at *
 obtain ⟨a,b,c,d,e⟩:=h
 refine ⟨a,b,c,?_,?_⟩
 ·rcases d with d | d
  ·exact .inl (by omega)
  ·exact .inr d
 ·rcases e with d | d
  ·exact .inl (by omega)
  ·exact .inr d
theorem HdOk.isW {r:Nat} {w:List Tz} (h:HdOk r w) {l:List Tk} (hl:er l=w) (rest:List Tk) :
  isW wStar (l++rest)=false∧isW wDistinct (l++rest)=false∧(2<r→isW wNot (l++rest)=false)∧(6<r→isW wMinus (l++rest)=false):=by
 obtain ⟨z,w',rfl,hz⟩:=h
 obtain ⟨t,l2,rfl,ht,_⟩:=er_cons hl
 unfold Tk.er at ht
 subst ht
 have e:∀ w,Go.Proofs.Tryz.isW w (t::l2++rest)=((t.kd==1||t.kd==4)&&t.rw==w):=fun _=>rfl
 simp only [e]
 unfold hdOk at hz
 by_cases k2:t.kd=2
 ·simp [k2]
 by_cases k3:t.kd=3
 ·simp [k3]
 simp only [beq_iff_eq,k2,k3,if_false,Bool.and_eq_true,Bool.or_eq_true,decide_eq_true_eq,bne_iff_ne,ne_eq] at hz
 obtain ⟨_,h1,h2,h3,h4⟩:=hz
 have f:∀ w,¬ t.rw=w→((t.kd==1||t.kd==4)&&t.rw==w)=false:=fun w hw=>by
  rw [show (t.rw==w)=false from by simpa using hw,Bool.and_false]
 refine ⟨f _ h1,f _ h2,fun hr=>f _ ?_,fun hr=>f _ ?_⟩
 ·rcases h3 with h | h
  ·omega
  ·exact h
 ·rcases h4 with h | h
  ·omega
  ·exact h
def ChR (r:Nat) (l:List Tk) (t:Tm) (rest:List Tk):Prop :=
 ∃ t0 l0 c,Reads (r+1) l t0 l0∧rest.length+c≤l0.length∧∃ n0,∀ n,n0≤n→∀ k,chainS (parP n (r+1)) (lvS r) (lvO r) (k+c) t0 l0=chainS (parP n (r+1)) (lvS r) (lvO r) k t rest
structure Back (t:Tm) (r:Nat) (w:List Tz):Prop where
 rk:r≤7
 hd:HdOk r w
 rd:∀ l rest,er l=w→∀ lvl,lvl≤r→Stp lvl rest→Reads lvl (l++rest) t rest
 ch:(r=0∨r=1∨r=4∨r=5)→∀ l rest,er l=w→Stp (r+1) rest→ChR r (l++rest) t rest
theorem back_of {t:Tm} {r:Nat} {w:List Tz} (hr:r≤7) (hd:HdOk r w) (h:∀ l rest,er l=w→Stp r rest→Reads r (l++rest) t rest):∀ l rest,er l=w→∀ lvl,lvl≤r→Stp lvl rest→Reads lvl (l++rest) t rest:=by
 intro l rest hl lvl hv hs
 obtain ⟨_,_,h3,h4⟩:=hd.isW hl rest
 exact reads_down (r - lvl) r lvl hr (by omega) (h l rest hl (hs.up (ban_sub lvl (by omega) r hr hv))) hs (fun _ b=>h3 b) (fun _ b=>h4 b)
theorem stp_shut (lvl:Nat) {tk:Tk} (h:tk.er=sg wShut) (r:List Tk):Stp lvl (tk::r):=stp_of (.inr h) (by
 match lvl with
 | 0=>decide
 | 1=>decide
 | 2=>decide
 | 3=>decide
 | 4=>decide
 | 5=>decide
 | n+6=>exact (by decide:wShut ∉ [wDot]))
theorem exp_one {w:List UInt8} {tk:Tk} {r:List Tk} (h:isW w (tk::r)=true):expS [w] (tk::r)=.ok r:=by
 rw [expS,if_pos h]; rfl
theorem kd_wd {tk:Tk} {x:List UInt8} (h:tk.er=wd x∨tk.er=sg x):¬ tk.kd=2∧¬ tk.kd=3:=by
 unfold Tk.er wd sg at h
 rcases h with h | h <;> (simp only [Prod.mk.injEq] at h; omega)
theorem reads_par {a:Tm} {ra:Nat} {wa:List Tz} (h:Back a ra wa) {l:List Tk} (hl:er l=sg wOpen::(wa++[sg wShut])) (rest:List Tk):Reads 7 (l++rest) a rest:=by
 obtain ⟨t1,l1,rfl,h1,hl⟩:=er_cons hl
 obtain ⟨l2,l3,rfl,h2,hl⟩:=er_app hl
 obtain ⟨t4,l4,rfl,h4,hl⟩:=er_cons hl
 rw [er_nil hl]
 obtain ⟨n0,hr⟩:=h.rd l2 (t4::rest) h2 0 (Nat.zero_le _) (stp_shut 0 h4 rest)
 refine ⟨n0+1,fun n hn=>?_⟩
 obtain ⟨m,rfl⟩:∃ m,n=m+1:=⟨n - 1,by omega⟩
 have hm:=hr m (by omega)
 obtain ⟨k2,k3⟩:=kd_wd (.inr h1)
 have q:=fun w=>isW_er (.inr h1) (l2++t4::rest) w
 have e:(t1::(l2++[t4])++rest)=t1::(l2++t4::rest):=by simp
 rw [e,parP,if_neg k2,if_neg k3,q,q,q,q,if_neg (by decide),if_neg (by decide),if_neg (by decide),if_pos (by decide),hm]
 show bind1 (expS [wShut] (t4::rest)) _=_
 rw [exp_one (by rw [isW_er (.inr h4)]; decide)]
 rfl
theorem hd_par {r:Nat} {wa:List Tz}:HdOk r (sg wOpen::wa):=⟨_,_,rfl,by
 unfold hdOk sg
 simp
 refine ⟨by decide,by decide,?_,?_⟩
 ·right; decide
 ·right; decide⟩
theorem plc_back {a:Tm} {ra:Nat} {wa:List Tz} (h:Back a ra wa) {want:Nat} (hw:want≤7):HdOk want (plc want ra wa)∧∀ l rest,er l=plc want ra wa→Stp want rest→Reads want (l++rest) a rest:=by
 unfold plc
 split
 ·refine ⟨hd_par,fun l rest hl hs=>?_⟩
  have h7:=reads_par h hl rest
  obtain ⟨_,_,h3,h4⟩:=(hd_par (r:=7) (wa:=wa++[sg wShut])).isW hl rest
  exact reads_down (7 - want) 7 want (by omega) (by omega) h7 hs (fun _ _=>h3 (by omega)) (fun _ _=>h4 (by omega))
 ·rename_i hlt
  refine ⟨?_,fun l rest hl hs=>h.rd l rest hl want (by omega) hs⟩
  obtain ⟨z,w',e,hz⟩:=h.hd
  exact ⟨z,w',e,hdOk_up hz (by omega)⟩
theorem plc_ch {a:Tm} {ra:Nat} {wa:List Tz} (h:Back a ra wa) {r:Nat} (hr:r=0∨r=1∨r=4∨r=5):∀ l rest,er l=plc r ra wa→Stp (r+1) rest→ChR r (l++rest) a rest:=by
 intro l rest hl hs
 by_cases he:ra=r
 ·subst he
  unfold plc at hl
  rw [if_neg (by omega)] at hl
  exact h.ch hr l rest hl hs
 ·have:Reads (r+1) (l++rest) a rest:=by
   unfold plc at hl
   split at hl
   ·have h7:=reads_par h hl rest
    obtain ⟨_,_,h3,h4⟩:=(hd_par (r:=7) (wa:=wa++[sg wShut])).isW hl rest
    exact reads_down (7 - (r+1)) 7 (r+1) (by omega) (by omega) h7 hs (fun _ _=>h3 (by omega)) (fun _ _=>h4 (by omega))
   ·exact h.rd l rest hl (r+1) (by omega) hs
  exact ⟨a,rest,0,this,by omega,0,fun n _ k=>rfl⟩
theorem chain_end {p:List Tk→Res Tm} {r:Nat} {rest:List Tk} (h:oneOf (lvS r) rest=none) (k:Nat) (t:Tm):chainS p (lvS r) (lvO r) k t rest=.ok (t,rest):=by
 cases k with
 | zero=>rfl
 | succ k=>rw [chainS,h]
theorem lv_ban {r:Nat} (hr:r=0∨r=1∨r=4∨r=5):∀ w∈lvS r,w∈banW r:=by
 rcases hr with rfl | rfl | rfl | rfl <;> decide
theorem ch_reads {r:Nat} (hr:r=0∨r=1∨r=4∨r=5) {l rest:List Tk} {t:Tm} (h:ChR r l t rest) (hs:Stp r rest):Reads r l t rest:=by
 obtain ⟨t0,l0,c,⟨n1,h1⟩,hlen,n2,h2⟩:=h
 refine ⟨max n1 n2+1,fun n hn=>?_⟩
 obtain ⟨m,rfl⟩:∃ m,n=m+1:=⟨n - 1,by omega⟩
 have e1:=h1 m (by omega)
 have e2:=h2 m (by omega) (l0.length - c)
 rw [Nat.sub_add_cancel (by omega),chain_end (hs.one (lv_ban hr))] at e2
 rcases hr with rfl | rfl | rfl | rfl <;> (rw [parP,e1]; exact e2)
theorem op_stp {r i:Nat} (hr:r=0∨r=1∨r=4∨r=5) (hi:i<(lvS r).length):((lvS r)[i]?).getD [] ∉ banW (r+1)∧(lvS r).findIdx? (fun w=>((lvS r)[i]?).getD []==w)=some i:=by
 rcases hr with rfl | rfl | rfl | rfl
 ·have:i=0:=by simp [lvS] at hi; omega
  subst this; decide
 ·have:i=0:=by simp [lvS] at hi; omega
  subst this; decide
 ·have:i=0∨i=1∨i=2:=by simp [lvS,addW] at hi; omega
  rcases this with rfl | rfl | rfl <;> decide
 ·have:i=0∨i=1∨i=2:=by simp [lvS,mulW] at hi; omega
  rcases this with rfl | rfl | rfl <;> decide
theorem one_tz {ws:List (List UInt8)} {tk:Tk} {x:List UInt8} {i:Nat} (h:tk.er=tz x) (hx:ws.findIdx? (fun w=>x==w)=some i) (r:List Tk):oneOf ws (tk::r)=some i:=by
 unfold oneOf
 have:(fun w=>isW w (tk::r))=fun w=>x==w:=by funext w; exact isW_tz h r w
 rw [this]
 exact hx
theorem hd_app {r:Nat} {w v:List Tz} (h:HdOk r w):HdOk r (w++v):=by
 obtain ⟨z,w',rfl,hz⟩:=h
 exact ⟨z,w'++v,rfl,hz⟩
theorem back_chn {r i:Nat} {a b:Tm} {ra rb:Nat} {wa wb:List Tz} (hr:r=0∨r=1∨r=4∨r=5) (hi:i<(lvS r).length) (ha:Back a ra wa) (hb:Back b rb wb) :
  Back (mkT (((lvO r)[i]?).getD 0) [a,b]) r (plc r ra wa++(tz (((lvS r)[i]?).getD [])::plc (r+1) rb wb)):=by
 have hr7:r≤7:=by omega
 have hch:∀ l rest,er l=plc r ra wa++(tz (((lvS r)[i]?).getD [])::plc (r+1) rb wb)→Stp (r+1) rest→ChR r (l++rest) (mkT (((lvO r)[i]?).getD 0) [a,b]) rest:=by
  intro l rest hl hs
  obtain ⟨l1,l2,rfl,h1,hl⟩:=er_app hl
  obtain ⟨tk,l3,rfl,h2,h3⟩:=er_cons hl
  obtain ⟨o1,o2⟩:=op_stp hr hi
  obtain ⟨t0,l0,c,hR,hlen,n2,hc⟩:=plc_ch ha hr l1 (tk::(l3++rest)) h1 (stp_tz h2 o1)
  obtain ⟨n1,hbr⟩:=(plc_back hb (want:=r+1) (by omega)).2 l3 rest h3 hs
  refine ⟨t0,l0,c+1,by simpa using hR,by simp at hlen; omega,max n1 n2,fun n hn k=>?_⟩
  have e:=hc n (by omega) (k+1)
  rw [show k+1+c=k+(c+1) from by omega] at e
  rw [e,chainS,one_tz h2 o2]
  simp only [List.tail_cons]
  rw [hbr n (by omega)]
 refine ⟨hr7,hd_app (plc_back ha hr7).1,back_of hr7 (hd_app (plc_back ha hr7).1) fun l rest hl hs=>ch_reads hr (hch l rest hl (hs.up (ban_sub r hr7 (r+1) (by omega) (by omega)))) hs,fun _=>hch⟩
theorem reads_succ {lvl:Nat} {L:List Tk} {t:Tm} {rest:List Tk} (n0:Nat) (h:∀ m,n0≤m→parP (m+1) lvl L=.ok (t,rest)):Reads lvl L t rest :=
 ⟨n0+1,fun n hn=>by
  obtain ⟨m,rfl⟩:∃ m,n=m+1:=⟨n - 1,by omega⟩
  exact h m (by omega)⟩
theorem stp_sg (lvl:Nat) {x:List UInt8} (hx:x ∉ banW 0) {tk:Tk} (h:tk.er=wd x∨tk.er=sg x) (r:List Tk) (hl:lvl≤7):Stp lvl (tk::r):=stp_of h fun hm=>hx (ban_sub 0 (by omega) lvl hl (by omega) x hm)
theorem one_er {ws:List (List UInt8)} {tk:Tk} {x:List UInt8} (h:tk.er=wd x∨tk.er=sg x) (r:List Tk):oneOf ws (tk::r)=ws.findIdx? (fun w=>x==w):=by
 unfold oneOf
 have:(fun w=>isW w (tk::r))=fun w=>x==w:=by funext w; exact isW_er h r w
 rw [this]
theorem hd_wd {r:Nat} {x:List UInt8} (w:List Tz) (h1:(x != wStar)=true) (h2:(x != wDistinct)=true) (h3:(x != wNot)=true) (h4:(x != wMinus)=true):HdOk r (wd x::w):=⟨_,_,rfl,by
 unfold hdOk wd
 simp only [h1,h2,h3,h4]
 simp⟩
theorem posW {tk:Tk} {x:List UInt8} (w:List UInt8) (h:tk.er=wd x∨tk.er=sg x) (r:List Tk) (e:(x==w)=true):isW w (tk::r)=true:=by rw [isW_er h,e]
theorem negW {tk:Tk} {x:List UInt8} (w:List UInt8) (h:tk.er=wd x∨tk.er=sg x) (r:List Tk) (e:(x==w)=false):¬ isW w (tk::r)=true:=by rw [isW_er h,e]; decide
section
variable {a:Tm} {ra:Nat} {wa:List Tz}
theorem back_cmp {i:Nat} {b:Tm} {rb:Nat} {wb:List Tz} (hi:i<7) (ha:Back a ra wa) (hb:Back b rb wb):Back (mkT (14+i) [a,b]) 3 (plc 4 ra wa++(tz ((cmpW[i]?).getD [])::plc 4 rb wb)):=by
 obtain ⟨hd,hA⟩:=plc_back ha (want:=4) (by omega)
 have hd3:HdOk 3 (plc 4 ra wa++(tz ((cmpW[i]?).getD [])::plc 4 rb wb)):=by
  obtain ⟨z,w',e,hz⟩:=hd
  exact hd_app ⟨z,w',e,hdOk_up hz (by omega)⟩
 refine ⟨by omega,hd3,back_of (by omega) hd3 fun l rest hl hs=>?_,fun h=>by omega⟩
 obtain ⟨l1,l2,rfl,h1,hl⟩:=er_app hl
 obtain ⟨tk,l3,rfl,h2,h3⟩:=er_cons hl
 have o:(cmpW[i]?).getD [] ∉ banW 4∧cmpW.findIdx? (fun w=>(cmpW[i]?).getD []==w)=some i:=by
  have:i=0∨i=1∨i=2∨i=3∨i=4∨i=5∨i=6:=by omega
  rcases this with rfl | rfl | rfl | rfl | rfl | rfl | rfl <;> decide
 obtain ⟨n1,r1⟩:=hA l1 (tk::(l3++rest)) h1 (stp_tz h2 o.1)
 obtain ⟨n2,r2⟩:=(plc_back hb (want:=4) (by omega)).2 l3 rest h3 (hs.up (ban_sub 3 (by omega) 4 (by omega) (by omega)))
 refine reads_succ (max n1 n2) fun m hm=>?_
 rw [show l1++tk::l3++rest=l1++tk::(l3++rest) from by simp,parP,r1 m (by omega)]
 show (match oneOf cmpW (tk::(l3++rest)) with
  | some i=>mapT (fun b=>mkT (14+i) [a,b]) (parP m 4 (tk::(l3++rest)).tail)
  | none=>_)=_
 rw [one_tz h2 o.2]
 simp only [List.tail_cons]
 rw [r2 m (by omega)]
 rfl
theorem back_no (ha:Back a ra wa):Back (mkT 24 [a]) 2 (wd wNot::plc 2 ra wa):=by
 have hd:HdOk 2 (wd wNot::plc 2 ra wa):=⟨_,_,rfl,by unfold hdOk wd; simp; exact ⟨by decide,by decide⟩⟩
 refine ⟨by omega,hd,back_of (by omega) hd fun l rest hl hs=>?_,fun h=>by omega⟩
 obtain ⟨tk,l1,rfl,h1,h2⟩:=er_cons hl
 obtain ⟨n1,r1⟩:=(plc_back ha (want:=2) (by omega)).2 l1 rest h2 hs
 refine reads_succ n1 fun m hm=>?_
 rw [List.cons_append,parP,isW_er (.inl h1),if_pos (by decide),List.tail_cons,r1 m hm]
 rfl
theorem is_hd (ha:Back a ra wa) (v:List Tz):HdOk 3 (plc 4 ra wa++v):=by
 obtain ⟨z,w',e,hz⟩:=(plc_back ha (want:=4) (by omega)).1
 exact hd_app ⟨z,w',e,hdOk_up hz (by omega)⟩
theorem is_step (ha:Back a ra wa) {x:List UInt8} (hx:x=wIs∨x=wIn) {l rest:List Tk} {v:List Tz} (hl:er l=plc 4 ra wa++(wd x::v)) :
  ∃ l1 tk l2,l=l1++tk::l2∧tk.er=wd x∧er l2=v∧∃ n0,∀ m,n0≤m→parP m 4 (l1++tk::(l2++rest))=.ok (a,tk::(l2++rest))∧oneOf cmpW (tk::(l2++rest))=none:=by
 obtain ⟨l1,l2,rfl,h1,hl⟩:=er_app hl
 obtain ⟨tk,l3,rfl,h2,h3⟩:=er_cons hl
 have hb:x ∉ banW 4:=by rcases hx with rfl | rfl <;> decide
 obtain ⟨n1,r1⟩:=(plc_back ha (want:=4) (by omega)).2 l1 (tk::(l3++rest)) h1 (stp_of (.inl h2) hb)
 refine ⟨l1,tk,l3,rfl,h2,h3,n1,fun m hm=>⟨r1 m hm,?_⟩⟩
 rw [one_er (.inl h2)]
 rcases hx with rfl | rfl <;> decide
theorem back_isNull (ha:Back a ra wa):Back (mkT 21 [a]) 3 (plc 4 ra wa++[wd wIs,wd wNull]):=by
 refine ⟨by omega,is_hd ha _,back_of (by omega) (is_hd ha _) fun l rest hl hs=>?_,fun h=>by omega⟩
 obtain ⟨l1,tk,l2,rfl,h1,h2,n0,hr⟩:=is_step ha (.inl rfl) (rest:=rest) hl
 obtain ⟨t2,l3,rfl,h3,h4⟩:=er_cons h2
 obtain rfl:=er_nil h4
 refine reads_succ n0 fun m hm=>?_
 obtain ⟨r1,r2⟩:=hr m hm
 rw [show l1++tk::[t2]++rest=l1++tk::([t2]++rest) from by simp,parP,r1]
 show (match oneOf cmpW (tk::([t2]++rest)) with
  | some i=>_
  | none=>_)=_
 rw [r2]
 simp only [List.tail_cons,List.cons_append,List.nil_append]
 simp only [isW_er (.inl h1),isW_er (.inl h3)]
 rfl
theorem back_isTrue (ha:Back a ra wa):Back (mkT 25 [a]) 3 (plc 4 ra wa++[wd wIs,wd wTrue]):=by
 refine ⟨by omega,is_hd ha _,back_of (by omega) (is_hd ha _) fun l rest hl hs=>?_,fun h=>by omega⟩
 obtain ⟨l1,tk,l2,rfl,h1,h2,n0,hr⟩:=is_step ha (.inl rfl) (rest:=rest) hl
 obtain ⟨t2,l3,rfl,h3,h4⟩:=er_cons h2
 obtain rfl:=er_nil h4
 refine reads_succ n0 fun m hm=>?_
 obtain ⟨r1,r2⟩:=hr m hm
 rw [show l1++tk::[t2]++rest=l1++tk::([t2]++rest) from by simp,parP,r1]
 show (match oneOf cmpW (tk::([t2]++rest)) with
  | some i=>_
  | none=>_)=_
 rw [r2]
 simp only [List.tail_cons,List.cons_append,List.nil_append]
 simp only [isW_er (.inl h1),isW_er (.inl h3)]
 rfl
def BackL:List Tm→List (List Tz)→Prop
 | [],[]=>True
 | a::ks,w::ws=>(∃ r,Back a r w)∧BackL ks ws
 | _,_=>False
theorem commas_cons {w:List Tz} {ws:List (List Tz)} (h:ws ≠ []):commas (w::ws)=w++(sg wComma::commas ws):=by
 cases ws with
 | nil=>exact absurd rfl h
 | cons v ws=>rfl
theorem ban_punct:wComma ∉ banW 0∧wShut ∉ banW 0∧wThen ∉ banW 0∧wElse ∉ banW 0∧wEnd ∉ banW 0:=by decide
theorem more_back:∀ (ks:List Tm) (ws:List (List Tz)),BackL ks ws→ks ≠ []→∀ (l:List Tk) (rest:List Tk) (tc:Tk) (ks0:List Tm),tc.er=sg wShut→er l=commas ws →
  ∃ a n0,∃ ks' L,ks=a::ks'∧(∀ m,n0≤m→parP m 0 (l++tc::rest)=.ok (a,L))∧tc::rest <:+ L∧∀ m,n0≤m→∀ k,L.length≤k→moreS (parP m 0) k (ks0++[a]) L=.ok (ks0++ks,tc::rest)
 | [],_,_,hn,_,_,_,_,_,_=>absurd rfl hn
 | a::ks,[],hb,_,_,_,_,_,_,_=>hb.elim
 | [a],[w],hb,_,l,rest,tc,ks0,hc,hl=>by
   obtain ⟨⟨r,ha⟩,_⟩:=hb
   obtain ⟨n0,hr⟩:=ha.rd l (tc::rest) hl 0 (Nat.zero_le _) (stp_shut 0 hc rest)
   refine ⟨a,n0,[],tc::rest,rfl,hr,List.suffix_refl _,fun m hm k hk=>?_⟩
   cases k with
   | zero=>rfl
   | succ k=>rw [moreS,isW_er (.inr hc),if_neg (by decide)]
 | a::b::ks,[w],hb,_,_,_,_,_,_,_=>hb.2.elim
 | [a],w::v::ws,hb,_,_,_,_,_,_,_=>hb.2.elim
 | a::b::ks,w::v::ws,hb,_,l,rest,tc,ks0,hc,hl=>by
   obtain ⟨⟨r,ha⟩,hbl⟩:=hb
   rw [commas_cons (by simp)] at hl
   obtain ⟨l1,l2,rfl,h1,hl⟩:=er_app hl
   obtain ⟨tk,l3,rfl,h2,h3⟩:=er_cons hl
   obtain ⟨n0,hr⟩:=ha.rd l1 (tk::(l3++tc::rest)) h1 0 (Nat.zero_le _) (stp_sg 0 ban_punct.1 (.inr h2) _ (by omega))
   obtain ⟨b',n1,ks',L,e,hb1,hsf,hmo⟩:=more_back (b::ks) (v::ws) hbl (by simp) l3 rest tc (ks0++[a]) hc h3
   simp only [List.cons.injEq] at e
   obtain ⟨rfl,rfl⟩:=e
   refine ⟨a,max n0 n1,b::ks,tk::(l3++tc::rest),rfl,fun m hm=>?_,?_,fun m hm k hk=>?_⟩
   ·rw [show l1++tk::l3++tc::rest=l1++tk::(l3++tc::rest) from by simp]
    exact hr m (by omega)
   ·exact ⟨tk::l3,by simp⟩
   ·cases k with
    | zero=>simp at hk
    | succ k =>
      have hp:=hb1 m (by omega)
      have hL:L.length≤(l3++tc::rest).length:=sfx_len (par_sfx m 0 _) hp
      rw [moreS,isW_er (.inr h2),if_pos (by decide),List.tail_cons,hp]
      show moreS (parP m 0) k (ks0++[a]++[b]) L=_
      rw [hmo m (by omega) k (by simp at hk hL; omega)]
      simp
theorem back_isIn {ks:List Tm} {ws:List (List Tz)} (ha:Back a ra wa) (hk:BackL ks ws) (hn:ks ≠ []):Back (mkT 28 (a::ks)) 3 (plc 4 ra wa++(wd wIn::sg wOpen::(commas ws++[sg wShut]))):=by
 refine ⟨by omega,is_hd ha _,back_of (by omega) (is_hd ha _) fun l rest hl hs=>?_,fun h=>by omega⟩
 obtain ⟨l1,tk,l2,rfl,h1,h2,n0,hr⟩:=is_step ha (.inr rfl) (rest:=rest) hl
 obtain ⟨t2,l3,rfl,h3,h4⟩:=er_cons h2
 obtain ⟨l4,l5,rfl,h5,h6⟩:=er_app h4
 obtain ⟨t5,l6,rfl,h7,h8⟩:=er_cons h6
 obtain rfl:=er_nil h8
 obtain ⟨b,n1,ks',L,rfl,hb,hsf,hm⟩:=more_back ks ws hk hn l4 rest t5 [a] h7 h5
 refine reads_succ (max n0 n1) fun m hmm=>?_
 obtain ⟨r1,r2⟩:=hr m (by omega)
 rw [show l1++tk::t2::(l4++[t5])++rest=l1++tk::(t2::(l4++[t5])++rest) from by simp,parP,r1]
 show (match oneOf cmpW (tk::(t2::(l4++[t5])++rest)) with
  | some i=>_
  | none=>_)=_
 rw [r2]
 simp only [List.tail_cons,List.cons_append,List.append_assoc,List.nil_append]
 rw [if_neg (negW wIs (.inl h1) _ (by decide)),if_pos (posW wIn (.inl h1) _ (by decide))]
 rw [exp_one (by rw [isW_er (.inr h3)]; decide)]
 show bind2 (parP m 0 (l4++t5::rest)) _=_
 rw [hb m (by omega)]
 show bind2 (moreS (parP m 0) L.length ([a]++[b]) L) _=_
 rw [hm m (by omega) L.length (Nat.le_refl _)]
 show bind1 (expS [wShut] (t5::rest)) _=_
 rw [exp_one (by rw [isW_er (.inr h7)]; decide)]
 rfl
end
def EqG {α:Type} (r:Res α) (q:α×RS):Prop:=match r with
 | .ok (t,l)=>q=(t,(l,-1))
 | .error p=>q.2.2=(p:Int)
theorem eqG2 {α β:Type} {r:Res α} {q:α×RS} (h:EqG r q) {f:α→List Tk→Res β} {g:α×RS→β×RS} (hf:∀ t l,r=.ok (t,l)→EqG (f t l) (g (t,(l,-1)))) (hb:∀ q:α×RS,0≤q.2.2→(g q).2=q.2):EqG (bind2 r f) (g q):=by
 cases r with
 | error p =>
   have h':q.2.2=(p:Int):=h
   show (g q).2.2=(p:Int)
   rw [hb q (by omega),h']
 | ok x =>
   obtain ⟨t,l⟩:=x
   have h':q=(t,(l,-1)):=h
   rw [h']
   exact hf t l rfl
theorem eqGW {β:Type} {w:List UInt8} {l:List Tk} {f:List Tk→Res β} {g:RS→β×RS} (hf:isW w l=true→EqG (f l.tail) (g (l.tail,-1))) (hb:∀ s:RS,0≤s.2→(g s).2=s):EqG (bind1 (expS [w] l) f) (g (rWant w (l,-1))):=by
 rw [rWant_good]
 simp only [expS]
 split
 ·rename_i h
  exact hf h
 ·show (g (l,(posT l:Int))).2.2=(posT l:Int)
  rw [hb _ (by simp only; omega)]
theorem eqGE {β:Type} {w:List UInt8} {l:List Tk} (t:β):EqG (bind1 (expS [w] l) fun l'=>.ok (t,l')) (t,rWant w (l,-1)) :=
 eqGW (g:=fun s=>(t,s)) (fun _=>rfl) fun s _=>rfl
theorem eqG_of {r:Res Tm} {q:Tm×RS} (h:Eqv r q):EqG r q:=by
 cases r with
 | error p=>exact h
 | ok x=>exact h
theorem eqG_ofL {r:Res (List Tm)} {q:List Tm×RS} (h:EqvL r q):EqG r q:=by
 cases r with
 | error p=>exact h
 | ok x=>exact h
theorem name_eqG {l:List Tk} (hl:okL l):EqG (nameS l) (rName (l,-1)):=by
 cases l with
 | nil =>
   have e:rName (([],-1):RS)=([],([],0)):=by simp [rName,rNamed,rFail,hdT,posT]
   rw [e]
   rfl
 | cons t r =>
   have ht:=hl t List.mem_cons_self
   unfold rName
   rw [named_good ht]
   unfold nameS
   simp only
   by_cases hk:t.kd=1∧nameOk rsv t.rw=true
   ·rw [if_pos hk]
    have e:(t.kd==1&&nameOk rsv t.rw)=true:=by simp [hk]
    rw [e,if_pos rfl,rNext_good]
    simp only [hdT,List.tail_cons]
    rw [ht.tx (.inl hk.1)]
    rfl
   ·rw [if_neg hk]
    have e:¬ (t.kd==1&&nameOk rsv t.rw)=true:=by simpa using hk
    rw [if_neg e,rFail_good]
    rfl
theorem optG (w:List UInt8) (l:List Tk):rOpt w (l,-1)=((optW w l).1,((optW w l).2,-1)):=by
 unfold rOpt optW
 rw [rIs_good,rNext_good]
 split <;> rfl
theorem opt_bad {s:RS} (h:0≤s.2) (w:List UInt8):rOpt w s=(false,s):=by unfold rOpt; rw [rIs_bad h]; simp
theorem opt_sfx (w:List UInt8) (l:List Tk):(optW w l).2 <:+ l:=by
 unfold optW
 split
 ·exact tail_sfx l
 ·exact List.suffix_refl _
section
variable {tm:List Tk→Res Tm} {st:List Tk→Res Sm} {rt:RS→Tm×RS} {rs:RS→Sm×RS}
variable (hT:∀ l,okL l→EqG (tm l) (rt (l,-1))) (hTb:∀ s:RS,0≤s.2→(rt s).2=s) (hTs:∀ l,SfxOk (tm l) l)
variable (hS:∀ l,okL l→EqG (st l) (rs (l,-1))) (hSb:∀ s:RS,0≤s.2→(rs s).2=s) (hSs:∀ l,SfxOk (st l) l)
theorem as_bad {s:RS} (h:0≤s.2):(asR s).2=s:=by unfold asR; rw [rIs_bad h]; rfl
theorem as_eqG {l:List Tk} (hl:okL l):EqG (asS l) (asR (l,-1)):=by
 unfold asS asR
 rw [rIs_good,rNext_good]
 split
 ·exact name_eqG hl.tl
 ·rfl
theorem as_sfx (l:List Tk):SfxOk (asS l) l:=by
 unfold asS
 split
 ·exact (name_sfx _).up (tail_sfx l)
 ·exact .ok (List.suffix_refl _)
include hTb in
theorem item_bad {s:RS} (h:0≤s.2):(itemR rt s).2=s:=by
 unfold itemR
 simp only
 rw [hTb s h,as_bad h]
include hT hTs in
theorem item_eqG {l:List Tk} (hl:okL l):EqG (itemS tm l) (itemR rt (l,-1)):=by
 unfold itemS itemR
 refine eqG2 (g:=fun x=>(It.mk x.1 (asR x.2).1,(asR x.2).2)) (hT l hl) (fun t l1 h1=>?_) fun x hx=>as_bad hx
 exact eqG2 (g:=fun x=>(It.mk t x.1,x.2)) (as_eqG (hl.sfx (hTs _ _ _ h1))) (fun n l2 _=>rfl) fun x _=>rfl
include hTs in
theorem item_sfx (l:List Tk):SfxOk (itemS tm l) l:=sfx2 (hTs l) fun t l1 _=>sfx2 (as_sfx l1) fun n l2 _=>.ok (List.suffix_refl _)
theorem items_bad {s:RS} (h:0≤s.2):∀ (k:Nat) (is:List It),itemsR rt k is s=(is,s)
 | 0,is=>rfl
 | k+1,is=>by rw [itemsR,rIs_bad h]; simp
include hT hTs in
theorem items_eqG:∀ (k:Nat) (is:List It) (l:List Tk),okL l→EqG (itemsS tm k is l) (itemsR rt k is (l,-1))
 | 0,is,l,hl=>rfl
 | k+1,is,l,hl=>by
   rw [itemsS,itemsR,rIs_good,rNext_good]
   split
   ·exact eqG2 (g:=fun x=>itemsR rt k (is++[x.1]) x.2) (item_eqG hT hTs hl.tl) (fun i l' h1=>items_eqG k _ l' (hl.tl.sfx (item_sfx hTs _ _ _ h1))) fun x hx=>by rw [items_bad hx]
   ·rfl
include hTs in
theorem items_sfx:∀ (k:Nat) (is:List It) (l:List Tk),SfxOk (itemsS tm k is l) l
 | 0,is,l=>.ok (List.suffix_refl _)
 | k+1,is,l=>by
   rw [itemsS]
   split
   ·exact (sfx2 (item_sfx hTs _) fun i l' _=>items_sfx k _ l').up (tail_sfx l)
   ·exact .ok (List.suffix_refl _)
include hSb in
theorem source_bad {s:RS} (h:0≤s.2):(sourceR rs s).2=s:=by
 unfold sourceR
 rw [rIs_bad h]
 simp only [Bool.false_eq_true,if_false]
 rw [rName_bad h]
 exact as_bad h
include hS hSs in
theorem source_eqG {l:List Tk} (hl:okL l):EqG (sourceS st l) (sourceR rs (l,-1)):=by
 unfold sourceS sourceR
 rw [rIs_good,rNext_good]
 split
 ·refine eqG2 (g:=fun x=>(([],[x.1],(rName (rWant wAs (rWant wShut x.2))).1),(rName (rWant wAs (rWant wShut x.2))).2)) (hS _ hl.tl) (fun x l1 h1=>?_) fun x hx=>by simp only; rw [rWant_bad hx,rWant_bad hx,rName_bad hx]
  have hl1:=hl.tl.sfx (hSs _ _ _ h1)
  have e:∀ f:List Tk→Res So,bind1 (expS [wShut,wAs] l1) f=bind1 (expS [wShut] l1) fun l2=>bind1 (expS [wAs] l2) f:=fun f=>by
   simp only [expS]
   split <;> rfl
  rw [e]
  refine eqGW (g:=fun s=>(([],[x],(rName (rWant wAs s)).1),(rName (rWant wAs s)).2)) (fun _=>?_) fun s hs=>by simp only; rw [rWant_bad hs,rName_bad hs]
  refine eqGW (g:=fun s=>(([],[x],(rName s).1),(rName s).2)) (fun _=>?_) fun s hs=>by simp only; rw [rName_bad hs]
  exact eqG2 (g:=fun n=>(([],[x],n.1),n.2)) (name_eqG hl1.tl.tl) (fun n l3 _=>rfl) fun x _=>rfl
 ·refine eqG2 (g:=fun t=>((t.1,[],(asR t.2).1),(asR t.2).2)) (name_eqG hl) (fun t l1 h1=>?_) fun x hx=>as_bad hx
  exact eqG2 (g:=fun x=>((t,[],x.1),x.2)) (as_eqG (hl.sfx (name_sfx _ _ _ h1))) (fun n l2 _=>rfl) fun x _=>rfl
include hSs in
theorem source_sfx (l:List Tk):SfxOk (sourceS st l) l:=by
 unfold sourceS
 split
 ·exact (sfx2 (hSs _) fun x l1 _=>sfx1 fun l2=>sfx2 (name_sfx l2) fun n l3 _=>.ok (List.suffix_refl _)).up (tail_sfx l)
 ·exact sfx2 (name_sfx l) fun t l1 _=>sfx2 (as_sfx l1) fun n l2 _=>.ok (List.suffix_refl _)
include hTb hSb in
def kindR (k:Nat):Nat:=if 6<k then 0 else max k 1
include hT hTb hS hSs hSb in
theorem join_eqG (k:Nat) {l:List Tk} (hl:okL l):EqG (joinS tm st k l) (joinR rt rs (kindR k) (l,-1)):=by
 unfold joinS joinR
 refine eqGW (g:=fun s=>if kindR k=0 then (Jo.mk 0 (sourceR rs s).1.1 (sourceR rs s).1.2.1 (sourceR rs s).1.2.2 [],(sourceR rs s).2) else (Jo.mk (kindR k:Nat) (sourceR rs s).1.1 (sourceR rs s).1.2.1 (sourceR rs s).1.2.2 [(rt (rWant wOn (sourceR rs s).2)).1],(rt (rWant wOn (sourceR rs s).2)).2)) (fun _=>?_) fun s hs=>?_
 ·refine eqG2 (g:=fun x=>if kindR k=0 then (Jo.mk 0 x.1.1 x.1.2.1 x.1.2.2 [],x.2) else (Jo.mk (kindR k:Nat) x.1.1 x.1.2.1 x.1.2.2 [(rt (rWant wOn x.2)).1],(rt (rWant wOn x.2)).2)) (source_eqG hS hSs hl.tl) (fun s l2 h2=>?_) fun x hx=>?_
  ·have hl2:=hl.tl.sfx (source_sfx hSs _ _ _ h2)
   by_cases hk:6<k
   ·have e:kindR k=0:=by unfold kindR; rw [if_pos hk]
    rw [if_pos hk]
    simp only [e,if_true]
    rfl
   ·have e:kindR k=max k 1:=by unfold kindR; rw [if_neg hk]
    have e0:¬ kindR k=0:=by omega
    rw [if_neg hk]
    simp only [e0,if_false]
    refine eqGW (g:=fun x=>(Jo.mk (kindR k:Nat) s.1 s.2.1 s.2.2 [(rt x).1],(rt x).2)) (fun _=>?_) fun x hx=>hTb x hx
    exact eqG2 (g:=fun x=>(Jo.mk (kindR k:Nat) s.1 s.2.1 s.2.2 [x.1],x.2)) (hT _ hl2.tl) (fun t l4 _=>by rw [e]; rfl) fun x _=>rfl
  ·split
   ·rfl
   ·rw [rWant_bad hx,hTb _ hx]
 ·split
  ·exact source_bad hSb hs
  ·rw [source_bad hSb hs,rWant_bad hs,hTb _ hs]
include hTs hSs in
theorem join_sfx (k:Nat) (l:List Tk):SfxOk (joinS tm st k l) l:=by
 unfold joinS
 refine sfx1 fun l1=>sfx2 (source_sfx hSs l1) fun s l2 _=>?_
 split
 ·exact .ok (List.suffix_refl _)
 ·exact sfx1 fun l3=>sfx2 (hTs l3) fun t l4 _=>.ok (List.suffix_refl _)
theorem joins_bad {s:RS} (h:0≤s.2):∀ (k:Nat) (js:List Jo),joinsR rt rs k js s=(js,s)
 | 0,js=>rfl
 | k+1,js=>by rw [joinsR,if_pos h]
theorem joi_order (l:List Tk):(oneOf joiR l).map (fun i=>i)=(oneOf joiW l).map fun i=>kindR (i+1):=by
 cases l with
 | nil=>rw [one_nil,one_nil]; rfl
 | cons t r =>
   unfold oneOf joiR joiW isW
   cases hk:(t.kd==1||t.kd==4) with
   | false=>simp only [hk,Bool.false_and,List.findIdx?_cons,List.findIdx?_nil]; rfl
   | true =>
     simp only [hk,Bool.true_and,List.findIdx?_cons,List.findIdx?_nil,beq_iff_eq]
     by_cases a1:t.rw=[99,114,111,115,115]
     ·rw [a1]; decide
     by_cases a2:t.rw=[105,110,110,101,114]
     ·rw [a2]; decide
     by_cases a3:t.rw=[108,101,102,116]
     ·rw [a3]; decide
     by_cases a4:t.rw=[114,105,103,104,116]
     ·rw [a4]; decide
     by_cases a5:t.rw=[102,117,108,108]
     ·rw [a5]; decide
     by_cases a6:t.rw=[115,101,109,105]
     ·rw [a6]; decide
     by_cases a7:t.rw=[97,110,116,105]
     ·rw [a7]; decide
     simp [a1,a2,a3,a4,a5,a6,a7]
include hT hTb hTs hS hSb hSs in
theorem joins_eqG:∀ (k:Nat) (js:List Jo) (l:List Tk),okL l→EqG (joinsS tm st k js l) (joinsR rt rs k js (l,-1))
 | 0,js,l,hl=>rfl
 | k+1,js,l,hl=>by
   rw [joinsS,joinsR,if_neg (show ¬ (0:Int)≤((l,-1):RS).2 by simp),rOne_good]
   have ho:=joi_order l
   cases h1:oneOf joiW l with
   | none =>
     rw [h1] at ho
     have h2:oneOf joiR l=none:=by simpa using ho
     rw [h2]
     simp only
     rw [rIs_good]
     split
     ·exact eqG2 (g:=fun x=>joinsR rt rs k (js++[x.1]) x.2) (join_eqG hT hTb hS hSb hSs 0 hl) (fun j l' h=>joins_eqG k _ l' (hl.sfx (join_sfx hTs hSs 0 _ _ _ h))) fun x hx=>by rw [joins_bad hx]
     ·rfl
   | some i =>
     rw [h1] at ho
     have h2:oneOf joiR l=some (kindR (i+1)):=by simpa using ho
     rw [h2]
     simp only [rNext_good]
     exact eqG2 (g:=fun x=>joinsR rt rs k (js++[x.1]) x.2) (join_eqG hT hTb hS hSb hSs (i+1) hl.tl) (fun j l' h=>joins_eqG k _ l' (hl.tl.sfx (join_sfx hTs hSs _ _ _ _ h))) fun x hx=>by rw [joins_bad hx]
include hTs hSs in
theorem joins_sfx:∀ (k:Nat) (js:List Jo) (l:List Tk),SfxOk (joinsS tm st k js l) l
 | 0,js,l=>.ok (List.suffix_refl _)
 | k+1,js,l=>by
   rw [joinsS]
   split
   ·exact (sfx2 (join_sfx hTs hSs _ _) fun j l' _=>joins_sfx k _ l').up (tail_sfx l)
   ·split
    ·exact sfx2 (join_sfx hTs hSs _ _) fun j l' _=>joins_sfx k _ l'
    ·exact .ok (List.suffix_refl _)
theorem one_bad (w:List UInt8) {s:RS} (h:0≤s.2):oneR rt w s=([],s):=by unfold oneR; rw [rIs_bad h]; simp
include hT in
theorem one_eqG (w:List UInt8) {l:List Tk} (hl:okL l):EqG (oneS tm w l) (oneR rt w (l,-1)):=by
 unfold oneS oneR
 rw [rIs_good,rNext_good]
 split
 ·exact eqG2 (g:=fun x=>([x.1],x.2)) (hT _ hl.tl) (fun t l' _=>rfl) fun x _=>rfl
 ·rfl
include hTs in
theorem one_sfx (w:List UInt8) (l:List Tk):SfxOk (oneS tm w l) l:=by
 unfold oneS
 split
 ·exact (sfx2 (hTs _) fun t l' _=>.ok (List.suffix_refl _)).up (tail_sfx l)
 ·exact .ok (List.suffix_refl _)
theorem group_bad {s:RS} (h:0≤s.2):groupR rt s=([],s):=by unfold groupR; rw [rIs_bad h]; simp
include hT hTb hTs in
theorem group_eqG {l:List Tk} (hl:okL l):EqG (groupS tm l) (groupR rt (l,-1)):=by
 unfold groupS groupR
 rw [rIs_good,rNext_good]
 split
 ·refine eqGW (g:=fun s=>moreR rt (rt s).2.1.length [(rt s).1] (rt s).2) (fun _=>?_) fun s hs=>by simp only [hTb s hs]; rw [more_bad hs]
  refine eqG2 (g:=fun x=>moreR rt x.2.1.length [x.1] x.2) (hT _ hl.tl.tl) (fun t l2 h2=>?_) fun x hx=>by rw [more_bad hx]
  exact eqG_ofL (more_eqv (fun l hl=>by
   have:=hT l hl
   cases hr:tm l with
   | error p=>rw [hr] at this; exact this
   | ok x=>rw [hr] at this; exact this) hTs _ _ l2 (hl.tl.tl.sfx (hTs _ _ _ h2)))
 ·rfl
include hTs in
theorem group_sfx (l:List Tk):SfxOk (groupS tm l) l:=by
 unfold groupS
 split
 ·exact (sfx1 fun l1=>sfx2 (hTs l1) fun t l2 _=>more_sfx hTs _ _ l2).up (tail_sfx l)
 ·exact .ok (List.suffix_refl _)
include hTb in
theorem star_bad {s:RS} (h:0≤s.2):(starR rt s).2=s:=by
 unfold starR
 rw [rIs_bad h]
 simp only [Bool.false_eq_true,if_false]
 rw [item_bad hTb h,items_bad h]
include hT hTs in
theorem star_eqG {l:List Tk} (hl:okL l):EqG (starS tm l) (starR rt (l,-1)):=by
 unfold starS starR
 rw [rIs_good,rNext_good]
 split
 ·rfl
 ·exact eqG2 (g:=fun x=>itemsR rt x.2.1.length [x.1] x.2) (item_eqG hT hTs hl) (fun i l' h=>items_eqG hT hTs _ _ l' (hl.sfx (item_sfx hTs _ _ _ h))) fun x hx=>by rw [items_bad hx]
include hTs in
theorem star_sfx (l:List Tk):SfxOk (starS tm l) l:=by
 unfold starS
 split
 ·exact .ok (tail_sfx l)
 ·exact sfx2 (item_sfx hTs l) fun i l' _=>items_sfx hTs _ _ l'
include hTb hSb in
theorem sel_bad {s:RS} (h:0≤s.2):(selR rt rs s).2=s:=by
 unfold selR
 simp only [rWant_bad h,opt_bad h,star_bad hTb h,source_bad hSb h,joins_bad h,one_bad _ h,group_bad h]
include hT hTb hTs hS hSb hSs in
theorem sel_eqG {l:List Tk} (hl:okL l):EqG (selS tm st l) (selR rt rs (l,-1)):=by
 unfold selS selR
 refine eqGW (g:=fun s0 =>
  (Sm.mk 1 false (rOpt wDistinct s0).1 (rIs wStar (rOpt wDistinct s0).2) (starR rt (rOpt wDistinct s0).2).1 (sourceR rs (rWant wFrom (starR rt (rOpt wDistinct s0).2).2)).1.1 (sourceR rs (rWant wFrom (starR rt (rOpt wDistinct s0).2).2)).1.2.1 (sourceR rs (rWant wFrom (starR rt (rOpt wDistinct s0).2).2)).1.2.2
   (joinsR rt rs (sourceR rs (rWant wFrom (starR rt (rOpt wDistinct s0).2).2)).2.1.length [] (sourceR rs (rWant wFrom (starR rt (rOpt wDistinct s0).2).2)).2).1
   (oneR rt wWhere (joinsR rt rs (sourceR rs (rWant wFrom (starR rt (rOpt wDistinct s0).2).2)).2.1.length [] (sourceR rs (rWant wFrom (starR rt (rOpt wDistinct s0).2).2)).2).2).1
   (groupR rt (oneR rt wWhere (joinsR rt rs (sourceR rs (rWant wFrom (starR rt (rOpt wDistinct s0).2).2)).2.1.length [] (sourceR rs (rWant wFrom (starR rt (rOpt wDistinct s0).2).2)).2).2).2).1
   (oneR rt wHaving (groupR rt (oneR rt wWhere (joinsR rt rs (sourceR rs (rWant wFrom (starR rt (rOpt wDistinct s0).2).2)).2.1.length [] (sourceR rs (rWant wFrom (starR rt (rOpt wDistinct s0).2).2)).2).2).2).2).1 [],
  (oneR rt wHaving (groupR rt (oneR rt wWhere (joinsR rt rs (sourceR rs (rWant wFrom (starR rt (rOpt wDistinct s0).2).2)).2.1.length [] (sourceR rs (rWant wFrom (starR rt (rOpt wDistinct s0).2).2)).2).2).2).2).2)) (fun _=>?_) fun s hs=>by
   simp only [rWant_bad hs,opt_bad hs,star_bad hTb hs,source_bad hSb hs,joins_bad hs,one_bad _ hs,group_bad hs]
 simp only [optG,rIs_good]
 have hl1:=hl.tl.sfx (opt_sfx wDistinct l.tail)
 generalize hd:(optW wDistinct l.tail).1=dd
 generalize hm:(optW wDistinct l.tail).2=m at *
 generalize hst:isW wStar m=sb
 refine eqG2 (g:=fun x=>(Sm.mk 1 false dd sb x.1 (sourceR rs (rWant wFrom x.2)).1.1 (sourceR rs (rWant wFrom x.2)).1.2.1 (sourceR rs (rWant wFrom x.2)).1.2.2
   (joinsR rt rs (sourceR rs (rWant wFrom x.2)).2.1.length [] (sourceR rs (rWant wFrom x.2)).2).1
   (oneR rt wWhere (joinsR rt rs (sourceR rs (rWant wFrom x.2)).2.1.length [] (sourceR rs (rWant wFrom x.2)).2).2).1
   (groupR rt (oneR rt wWhere (joinsR rt rs (sourceR rs (rWant wFrom x.2)).2.1.length [] (sourceR rs (rWant wFrom x.2)).2).2).2).1
   (oneR rt wHaving (groupR rt (oneR rt wWhere (joinsR rt rs (sourceR rs (rWant wFrom x.2)).2.1.length [] (sourceR rs (rWant wFrom x.2)).2).2).2).2).1 [],
  (oneR rt wHaving (groupR rt (oneR rt wWhere (joinsR rt rs (sourceR rs (rWant wFrom x.2)).2.1.length [] (sourceR rs (rWant wFrom x.2)).2).2).2).2).2)) (star_eqG hT hTs hl1) (fun is l2 h2=>?_) fun x hx=>by
   simp only [rWant_bad hx,source_bad hSb hx,joins_bad hx,one_bad _ hx,group_bad hx]
 have hl2:=hl1.sfx (star_sfx hTs _ _ _ h2)
 refine eqGW (g:=fun s=>(Sm.mk 1 false dd sb is (sourceR rs s).1.1 (sourceR rs s).1.2.1 (sourceR rs s).1.2.2
   (joinsR rt rs (sourceR rs s).2.1.length [] (sourceR rs s).2).1
   (oneR rt wWhere (joinsR rt rs (sourceR rs s).2.1.length [] (sourceR rs s).2).2).1
   (groupR rt (oneR rt wWhere (joinsR rt rs (sourceR rs s).2.1.length [] (sourceR rs s).2).2).2).1
   (oneR rt wHaving (groupR rt (oneR rt wWhere (joinsR rt rs (sourceR rs s).2.1.length [] (sourceR rs s).2).2).2).2).1 [],
  (oneR rt wHaving (groupR rt (oneR rt wWhere (joinsR rt rs (sourceR rs s).2.1.length [] (sourceR rs s).2).2).2).2).2)) (fun _=>?_) fun s hs=>by
   simp only [source_bad hSb hs,joins_bad hs,one_bad _ hs,group_bad hs]
 refine eqG2 (g:=fun x:So×RS=>(Sm.mk 1 false dd sb is x.1.1 x.1.2.1 x.1.2.2
   (joinsR rt rs x.2.1.length [] x.2).1
   (oneR rt wWhere (joinsR rt rs x.2.1.length [] x.2).2).1
   (groupR rt (oneR rt wWhere (joinsR rt rs x.2.1.length [] x.2).2).2).1
   (oneR rt wHaving (groupR rt (oneR rt wWhere (joinsR rt rs x.2.1.length [] x.2).2).2).2).1 [],
  (oneR rt wHaving (groupR rt (oneR rt wWhere (joinsR rt rs x.2.1.length [] x.2).2).2).2).2)) (source_eqG hS hSs hl2.tl) (fun s l4 h4=>?_) fun x hx=>by
   simp only [joins_bad hx,one_bad _ hx,group_bad hx]
 have hl4:=hl2.tl.sfx (source_sfx hSs _ _ _ h4)
 refine eqG2 (g:=fun x=>(Sm.mk 1 false dd sb is s.1 s.2.1 s.2.2 x.1 (oneR rt wWhere x.2).1 (groupR rt (oneR rt wWhere x.2).2).1 (oneR rt wHaving (groupR rt (oneR rt wWhere x.2).2).2).1 [],
  (oneR rt wHaving (groupR rt (oneR rt wWhere x.2).2).2).2)) (joins_eqG hT hTb hTs hS hSb hSs _ _ l4 hl4) (fun js l5 h5=>?_) fun x hx=>by
   simp only [one_bad _ hx,group_bad hx]
 have hl5:=hl4.sfx (joins_sfx hTs hSs _ _ _ _ _ h5)
 refine eqG2 (g:=fun x=>(Sm.mk 1 false dd sb is s.1 s.2.1 s.2.2 js x.1 (groupR rt x.2).1 (oneR rt wHaving (groupR rt x.2).2).1 [],(oneR rt wHaving (groupR rt x.2).2).2)) (one_eqG hT wWhere hl5) (fun w l6 h6=>?_) fun x hx=>by
   simp only [one_bad _ hx,group_bad hx]
 have hl6:=hl5.sfx (one_sfx hTs wWhere _ _ _ h6)
 refine eqG2 (g:=fun x=>(Sm.mk 1 false dd sb is s.1 s.2.1 s.2.2 js w x.1 (oneR rt wHaving x.2).1 [],(oneR rt wHaving x.2).2)) (group_eqG hT hTb hTs hl6) (fun g l7 h7=>?_) fun x hx=>by
   simp only [one_bad _ hx]
 have hl7:=hl6.sfx (group_sfx hTs _ _ _ h7)
 exact eqG2 (g:=fun x=>(Sm.mk 1 false dd sb is s.1 s.2.1 s.2.2 js w g x.1 [],x.2)) (one_eqG hT wHaving hl7) (fun h l8 _=>rfl) fun x _=>rfl
include hTs hSs in
theorem sel_sfx (l:List Tk):SfxOk (selS tm st l) l:=by
 unfold selS
 refine sfx1 fun l1=>(sfx2 (star_sfx hTs _) fun is l2 _=>sfx1 fun l3=>sfx2 (source_sfx hSs l3) fun s l4 _=>sfx2 (joins_sfx hTs hSs _ _ l4) fun js l5 _=>sfx2 (one_sfx hTs _ l5) fun w l6 _=>sfx2 (group_sfx hTs l6) fun g l7 _=>sfx2 (one_sfx hTs _ l7) fun h l8 _=>.ok (List.suffix_refl _)).up (opt_sfx _ _)
include hTb hSb in
theorem core_bad {s:RS} (h:0≤s.2):(coreR rt rs s).2=s:=by
 unfold coreR
 rw [rIs_bad h]
 simp only [Bool.false_eq_true,if_false]
 exact sel_bad hTb hSb h
include hT hTb hTs hS hSb hSs in
theorem core_eqG {l:List Tk} (hl:okL l):EqG (coreS tm st l) (coreR rt rs (l,-1)):=by
 unfold coreS coreR
 rw [rIs_good,rNext_good]
 split
 ·exact eqG2 (g:=fun x=>(x.1,rWant wShut x.2)) (hS _ hl.tl) (fun x l1 _=>eqGE _) fun x hx=>rWant_bad hx _
 ·exact sel_eqG hT hTb hTs hS hSb hSs hl
include hTs hSs in
theorem core_sfx (l:List Tk):SfxOk (coreS tm st l) l:=by
 unfold coreS
 split
 ·exact (sfx2 (hSs _) fun x l1 _=>sfx1 fun l2=>.ok (List.suffix_refl _)).up (tail_sfx l)
 ·exact sel_sfx hTs hSs l
theorem stmt_bad {s:RS} (h:0≤s.2):∀ (k:Nat) (x:Sm),stmtR rt rs k x s=(x,s)
 | 0,x=>rfl
 | k+1,x=>by rw [stmtR,rOne_bad h]
include hT hTb hTs hS hSb hSs in
theorem stmt_eqG:∀ (k:Nat) (x:Sm) (l:List Tk),okL l→EqG (stmtS tm st k x l) (stmtR rt rs k x (l,-1))
 | 0,x,l,hl=>rfl
 | k+1,x,l,hl=>by
   rw [stmtS,stmtR,rOne_good]
   cases h1:oneOf setW l with
   | none=>rfl
   | some i =>
     simp only [rNext_good,optG]
     have hl1:=hl.tl.sfx (opt_sfx wAll l.tail)
     exact eqG2 (g:=fun y=>stmtR rt rs k (setS i (optW wAll l.tail).1 x y.1) y.2) (core_eqG hT hTb hTs hS hSb hSs hl1) (fun y l' h=>stmt_eqG k _ l' (hl1.sfx (core_sfx hTs hSs _ _ _ h))) fun y hy=>by rw [stmt_bad hy]
include hTs hSs in
theorem stmt_sfx:∀ (k:Nat) (x:Sm) (l:List Tk),SfxOk (stmtS tm st k x l) l
 | 0,x,l=>.ok (List.suffix_refl _)
 | k+1,x,l=>by
   rw [stmtS]
   split
   ·exact .ok (List.suffix_refl _)
   ·exact (sfx2 (core_sfx hTs hSs _) fun y l' _=>stmt_sfx k _ l').up ((opt_sfx _ _).trans (tail_sfx l))
end
theorem parG (N:Nat):∀ l,okL l→EqG (parP N 0 l) (parR N 0 (l,-1)):=fun l hl=>eqG_of (par_eqv N 0 l hl)
theorem stmtQ_bad (N:Nat):∀ (n:Nat) (s:RS),0≤s.2→(stmtQ N n s).2=s
 | 0,s,h=>by rw [stmtQ,rFail_bad h]
 | n+1,s,h=>by
   rw [stmtQ]
   have e:=core_bad (rt:=parR N 0) (rs:=stmtQ N n) (par_bad N 0) (stmtQ_bad N n) h
   rw [e,stmt_bad h]
theorem stmtP_sfx (N:Nat):∀ (n:Nat) (l:List Tk),SfxOk (stmtP N n l) l
 | 0,l=>.err _
 | n+1,l=>by
   rw [stmtP]
   exact sfx2 (core_sfx (par_sfx N 0) (stmtP_sfx N n) l) fun x l' _=>stmt_sfx (par_sfx N 0) (stmtP_sfx N n) _ _ l'
theorem stmt_eqv (N:Nat):∀ (n:Nat) (l:List Tk),okL l→EqG (stmtP N n l) (stmtQ N n (l,-1))
 | 0,l,hl=>by rw [stmtP,stmtQ]; rfl
 | n+1,l,hl=>by
   rw [stmtP,stmtQ]
   exact eqG2 (g:=fun x=>stmtR (parR N 0) (stmtQ N n) x.2.1.length x.1 x.2) (core_eqG (parG N) (par_bad N 0) (par_sfx N 0) (stmt_eqv N n) (stmtQ_bad N n) (stmtP_sfx N n) hl) (fun x l' h=>stmt_eqG (parG N) (par_bad N 0) (par_sfx N 0) (stmt_eqv N n) (stmtQ_bad N n) (stmtP_sfx N n) _ _ l' (hl.sfx (core_sfx (par_sfx N 0) (stmtP_sfx N n) _ _ _ h))) fun x hx=>by rw [stmt_bad hx]
theorem bindE {α β:Type} {r r':Res α} {l:List Tk} (h:r=r') (hs:SfxOk r l) {f g:α→List Tk→Res β} (hf:∀ t l',l'.length≤l.length→f t l'=g t l'):bind2 r f=bind2 r' g:=by
 subst h
 cases hr:r with
 | error e=>rfl
 | ok x=>exact hf x.1 x.2 (sfx_len hs hr)
theorem opt_len (w:List UInt8) (l:List Tk):(optW w l).2.length≤l.length:=(opt_sfx w l).length_le
section
variable {L:Nat} {tm tm2:List Tk→Res Tm} {st st2:List Tk→Res Sm}
variable (hA:∀ l,l.length≤L→tm l=tm2 l) (hT:∀ l,SfxOk (tm l) l) (hB:∀ l:List Tk,l.length+1≤L→st l=st2 l) (hS:∀ l,SfxOk (st l) l)
include hA hT in
end
def isI64 (v:Value):Prop:=∃ m,v=.int .i64 m
def isErrS (v:Value):Prop:=∃ t x,v=.iface t x
def esG (g:Nat):Option (List D):=if g=0 then some [.int .i64 0,.int .i64 0,.str []] else if g=2∨g=3 then some [.any isErrS] else if g=4 then some (Lib.pow10Tab.map fun z=>D.int .u64 z) else if g=1 then some [.any isI64] else none
noncomputable def Es:Env:=⟨Tryz.prog,esG⟩
@[simp] theorem Es_P:Es.P=Tryz.prog:=id rfl
@[simp] theorem Es_G (g:Nat):Es.G g=esG g:=rfl
theorem mixs:Es.P.follows .mixedOrders=true:=by kernel_rfl
theorem ups_g (g:Nat) (cs:List D) (e:En.G g=some cs):Es.G g=some cs:=by rw [En_G] at e; cases e
theorem ups {f:FuncId} {xs:List AV} {B:List Blk} {y:AV} {B':List Blk} (h:Cf En f xs B y B'):Cf Es f xs B y B':=Cf.more (E:=En) (E':=Es) rfl ups_g h
theorem upw_g (g:Nat) (cs:List D) (e:Ev.G g=some cs):Es.G g=some cs:=by
 rw [Ev_G] at e
 rw [Es_G,esG]
 split at e
 ·rename_i h; rw [if_pos h]; exact e
 ·rename_i h0
  rw [if_neg h0]
  split at e
  ·rename_i h; rw [if_pos h]; exact e
  ·rename_i h1
   rw [if_neg h1]
   split at e
   ·rename_i h; rw [if_pos h]; exact e
   ·cases e
theorem upw {f:FuncId} {xs:List AV} {B:List Blk} {y:AV} {B':List Blk} (h:Cf Ev f xs B y B'):Cf Es f xs B y B':=Cf.more (E:=Ev) (E':=Es) rfl upw_g h
def words:List (List UInt8):=[[115,101,108,101,99,116],[100,105,115,116,105,110,99,116],[97,108,108],[102,114,111,109],[119,104,101,114,101],[103,114,111,117,112],[98,121],[104,97,118,105,110,103],[97,115],[111,110],[117,110,105,111,110],[101,120,99,101,112,116],[105,110,116,101,114,115,101,99,116],[106,111,105,110],[105,110,110,101,114],[108,101,102,116],[114,105,103,104,116],[102,117,108,108],[99,114,111,115,115],[115,101,109,105],[97,110,116,105],[97,110,100],[111,114],[110,111,116],[105,115],[110,117,108,108],[116,114,117,101],[102,97,108,115,101],[105,110],[99,97,115,101],[119,104,101,110],[116,104,101,110],[101,108,115,101],[101,110,100],[118,97,108,117,101,115],[116,97,98,108,101],[112,114,105,109,97,114,121],[117,110,105,113,117,101],[102,111,114,101,105,103,110],[114,101,102,101,114,101,110,99,101,115],[99,104,101,99,107],[105,110,116],[98,111,111,108],[116,101,120,116],[99,111,117,110,116],[115,117,109],[109,105,110],[109,97,120],[99,111,97,108,101,115,99,101],[108,101,110,103,116,104],[115,97,109,101],[109,111,100]]
theorem rest_cell {w:World} {g:Gh} {B:List Blk} {bl:Nat→Blk} (m:Mem (ctxOf Es w g B) bl w g):∃ n,w.cell? ⟨1,0,none⟩=some (.int .i64 n):=by
 have hc:=m.glob 1 [.any isI64] (by simp [ctxOf,esG])
 simp only [RepCells,RepD] at hc
 obtain ⟨⟨v,hv,⟨n,rfl⟩,_⟩,_⟩:=hc
 exact ⟨n,m.con _ _ _ hv⟩
theorem c_contains (s sub:List UInt8) (hs:s.length<4294967281):Cf Es 95 [.d (.str s),.d (.str sub)] [] (.d (.bool (within sub s))) []:=by
 refine cf_of_calls (by kernel_rfl) fun w g vs hr m=>?_
 obtain ⟨_,_,rfl,r1,_,_,rfl,r2,r3⟩:=hr
 simp only [RepAs] at r3
 subst r3
 simp only [RepA,RepD] at r1 r2
 subst r1 r2
 obtain ⟨n,hn⟩:=rest_cell m
 refine (Tryz.strings_Contains _ _ n w (by simpa [ByteArray.size_mk'] using hs) hn).mono ?_
 rintro e w' ⟨rfl,rfl⟩
 refine ⟨_,rfl,?_,.refl _ _⟩
 simp only [RepA,RepD,Lib.contains,within_index]
@[simp] theorem cvAs_d (r:Nat→Option Nat) (bl:Nat→Blk) (kn:Bool):∀ l:List D,cvAs r bl kn (l.map AV.d)=(l.map AV.d,[])
  | []=>rfl
  | x::l=>by rw [List.map_cons,cvAs,cvAs_d r bl kn l]; rfl
@[simp] theorem toDs_d (bl:Nat→Blk):∀ l:List D,toDs bl (l.map AV.d)=some (l,[])
  | []=>rfl
  | x::l=>by rw [List.map_cons,toDs,toDs_d bl l]; rfl
@[simp] theorem names_d:∀ l:List D,List.flatMap AV.names (l.map AV.d)=[]
  | []=>rfl
  | x::l=>by rw [List.map_cons,List.flatMap_cons,names_d l]; rfl
end Go.Proofs.Tryz
