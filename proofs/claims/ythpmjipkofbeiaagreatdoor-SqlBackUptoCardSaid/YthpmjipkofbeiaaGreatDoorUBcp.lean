import Derived.Test.YthpmjipkofbeiaaGreatDoorUSqyRow
set_option linter.all false
namespace Go.Proofs.Tryz
open Go.Ab
set_option maxRecDepth 100000
set_option maxHeartbeats 8000000
abbrev Tz:=Int×List UInt8×List UInt8×Int
def Tk.er (t:Tk):Tz:=(t.kd,t.rw,t.tx,t.n)
def er (l:List Tk):List Tz:=l.map Tk.er
def wd (w:List UInt8):Tz:=(1,w,w,0)
def sg (w:List UInt8):Tz:=(4,w,w,0)
def aOp (w:List UInt8):Bool:=match w with
 | c::_=>jO c
 | []=>false
def tz (w:List UInt8):Tz:=if aOp w=true then wd w else sg w
theorem eY {tk:Tk} {x:List UInt8} (h:tk.er=wd x∨tk.er=sg x) (r:List Tk) (w:List UInt8):isW w (tk::r)=(x==w):=by
 unfold Tk.er wd sg at h
 show ((tk.kd==1||tk.kd==4)&&tk.rw==w)=_
 rcases h with h | h <;> (simp only [Prod.mk.injEq] at h; obtain ⟨h1,h2,_⟩:=h; rw [h1,h2]; simp)
theorem aKt {tk:Tk} {x:List UInt8} (h:tk.er=tz x) (r:List Tk) (w:List UInt8):isW w (tk::r)=(x==w):=by
 unfold tz at h
 split at h
 ·exact eY (.inl h) r w
 ·exact eY (.inr h) r w
def lA:Nat→List (List UInt8)
 | 0=>RI::tQ::(cmpW++(wIs::wIn::(mM++(mC++[qJ]))))
 | 1=>tQ::(cmpW++(wIs::wIn::(mM++(mC++[qJ]))))
 | 2=>cmpW++(wIs::wIn::(mM++(mC++[qJ])))
 | 3=>cmpW++(wIs::wIn::(mM++(mC++[qJ])))
 | 4=>mM++(mC++[qJ])
 | 5=>mC++[qJ]
 | _=>[qJ]
def Stp (lvl:Nat) (l:List Tk):Prop:=∀ w∈lA lvl,isW w l=false
theorem HU {ws:List (List UInt8)} {l:List Tk} (h:∀ w∈ws,isW w l=false):bN ws l=none:=by
 unfold bN
 rw [List.findIdx?_eq_none_iff]
 intro x hx
 exact h x hx
theorem Stp.one {lvl:Nat} {l:List Tk} (h:Stp lvl l) {ws:List (List UInt8)} (hs:∀ w∈ws,w∈lA lvl):bN ws l=none:=HU fun w hw=>h w (hs w hw)
theorem Stp.up {a b:Nat} {l:List Tk} (h:Stp a l) (hs:∀ w∈lA b,w∈lA a):Stp b l:=fun w hw=>h w (hs w hw)
theorem HV {lvl:Nat} {tk:Tk} {x:List UInt8} {r:List Tk} (h:tk.er=wd x∨tk.er=sg x) (hx:x ∉ lA lvl):Stp lvl (tk::r):=fun w hw=>by
 rw [eY h]
 cases e:x==w with
 | false=>rfl
 | true=>rw [beq_iff_eq] at e; exact absurd (e ▸ hw) hx
theorem aEQ {lvl:Nat} {tk:Tk} {x:List UInt8} {r:List Tk} (h:tk.er=tz x) (hx:x ∉ lA lvl):Stp lvl (tk::r):=by
 unfold tz at h
 split at h
 ·exact HV (.inl h) hx
 ·exact HV (.inr h) hx
theorem aER {lvl:Nat} {L rest:List Tk} {t:Tm} (hl:lvl<7) (h:Reads (lvl+1) L t rest) (hs:Stp lvl rest) (h2:lvl=2→isW wNot L=false) (h6:lvl=6→isW gB L=false):Reads lvl L t rest:=by
 obtain ⟨n0,h⟩:=h
 refine ⟨n0+1,fun n hn=>?_⟩
 obtain ⟨m,rfl⟩:∃ m,n=m+1:=⟨n - 1,by omega⟩
 have hm:=h m (by omega)
 have chn:∀ (p:List Tk→cY Tm) (sgs:List (List UInt8)) (ops:List Int) (k:Nat),bN sgs rest=none→cW p sgs ops k t rest=.ok (t,rest):=fun p sgs ops k h=>by
  cases k with
  | zero=>rfl
  | succ k=>rw [cW,h]
 match lvl,hl with
 | 0,_ =>
   rw [bA,hm]
   exact chn _ _ _ _ (hs.one (by decide))
 | 1,_ =>
   rw [bA,hm]
   exact chn _ _ _ _ (hs.one (by decide))
 | 2,_ =>
   rw [bA,h2 rfl]
   exact hm
 | 3,_ =>
   rw [bA,hm]
   show (match bN cmpW rest with
    | some i=>tP (fun b=>cD (14+i) [t,b]) (bA m 4 rest.tail)
    | none=>_)=_
   rw [hs.one (ws:=cmpW) (by decide),hs wIs (by decide),hs wIn (by decide)]
   rfl
 | 4,_ =>
   rw [bA,hm]
   exact chn _ _ _ _ (hs.one (by decide))
 | 5,_ =>
   rw [bA,hm]
   exact chn _ _ _ _ (hs.one (by decide))
 | 6,_ =>
   rw [bA,h6 rfl]
   exact hm
theorem aES:∀ a b:Fin 8,a.1≤b.1→(lA b.1).all (fun w=>(lA a.1).contains w)=true:=by decide
theorem zX (a:Nat) (ha:a≤7) (b:Nat) (hb:b≤7) (h:a≤b):∀ w∈lA b,w∈lA a:=fun w hw=>by
 have:=List.all_eq_true.1 (aES ⟨a,by omega⟩ ⟨b,by omega⟩ h) w hw
 simpa using this
theorem pR {L rest:List Tk} {t:Tm}:∀ (d r lvl:Nat),r≤7→lvl+d=r→Reads r L t rest→Stp lvl rest→(lvl≤2→2<r→isW wNot L=false)→(lvl≤6→6<r→isW gB L=false)→Reads lvl L t rest
 | 0,r,lvl,h7,e,h,_,_,_=>by
   obtain rfl:lvl=r:=by omega
   exact h
 | d+1,r,lvl,h7,e,h,hs,h2,h6=>by
   have h1:=pR d r (lvl+1) h7 (by omega) h (hs.up (zX lvl (by omega) (lvl+1) (by omega) (by omega))) (fun a b=>h2 (by omega) b) (fun a b=>h6 (by omega) b)
   exact aER (by omega) h1 hs (fun e=>h2 (by omega) (by omega)) (fun e=>h6 (by omega) (by omega))
def DY:Nat→List (List UInt8)
 | 0=>[RI]
 | 1=>[tQ]
 | 4=>mM
 | 5=>mC
 | _=>[]
def lvO:Nat→List Int
 | 0=>[23]
 | 1=>[22]
 | 4=>[6,7,12]
 | 5=>[8,9,10]
 | _=>[]
def uB (want r:Nat) (w:List Tz):List Tz:=if r<want then sg bF::(w++[sg aY]) else w
def rN:List (List Tz)→List Tz
 | []=>[]
 | [w]=>w
 | w::ws=>w++(sg bQ::rN ws)
def aET (n:Int):List Tz:=if n=2 then [wd wCount,sg bF] else if n=3 then [wd wCount,sg bF,wd aO] else if n=4 then [wd IM,sg bF] else if n=5 then [wd IN,sg bF] else [wd IO,sg bF]
def TR (y:Int):List UInt8:=if y=1 then EQ else if y=2 then uD else uE
def PL:Tm→Bool
 | .mk o _ n _ _ _=>o==2&&decide (0<n)
mutual
/-- The tokens of a term, and its rank. -/
inductive WT:Tm→Nat→List Tz→Prop
 | chn {r i:Nat} {a b:Tm} {ra rb:Nat} {wa wb:List Tz} (hr:r=0∨r=1∨r=4∨r=5) (hi:i<(DY r).length) (ha:WT a ra wa) (hb:WT b rb wb) :
   WT (cD (((lvO r)[i]?).getD 0) [a,b]) r (uB r ra wa++(tz (((DY r)[i]?).getD [])::uB (r+1) rb wb))
 | cmp {i:Nat} {a b:Tm} {ra rb:Nat} {wa wb:List Tz} (hi:i<7) (ha:WT a ra wa) (hb:WT b rb wb):WT (cD (14+i) [a,b]) 3 (uB 4 ra wa++(tz ((cmpW[i]?).getD [])::uB 4 rb wb))
 | no {a:Tm} {ra:Nat} {wa:List Tz} (ha:WT a ra wa):WT (cD 24 [a]) 2 (wd wNot::uB 2 ra wa)
 | isNull {a:Tm} {ra:Nat} {wa:List Tz} (ha:WT a ra wa):WT (cD 21 [a]) 3 (uB 4 ra wa++[wd wIs,wd wNull])
 | isTrue {a:Tm} {ra:Nat} {wa:List Tz} (ha:WT a ra wa):WT (cD 25 [a]) 3 (uB 4 ra wa++[wd wIs,wd wTrue])
 | isIn {a:Tm} {ra:Nat} {wa:List Tz} {ks:List Tm} {ws:List (List Tz)} (ha:WT a ra wa) (hk:WTs ks ws) (hn:ks ≠ []):WT (cD 28 (a::ks)) 3 (uB 4 ra wa++(wd wIn::sg bF::(rN ws++[sg aY])))
 | negP {a:Tm} {ra:Nat} {wa:List Tz} (ha:WT a ra wa):WT (cD 11 [a]) 6 (sg gB::sg bF::(wa++[sg aY]))
 | neg {a:Tm} {ra:Nat} {wa:List Tz} (ha:WT a ra wa) (hp:PL a=false):WT (cD 11 [a]) 6 (sg gB::uB 6 ra wa)
 | len {a:Tm} {ra:Nat} {wa:List Tz} (ha:WT a ra wa):WT (cD 13 [a]) 7 (wd wLength::sg bF::(wa++[sg aY]))
 | coal {a b:Tm} {ra rb:Nat} {wa wb:List Tz} (ha:WT a ra wa) (hb:WT b rb wb):WT (cD 27 [a,b]) 7 (wd wCoalesce::sg bF::(wa++(sg bQ::(wb++[sg aY]))))
 | case {a b c:Tm} {ra rb rc:Nat} {wa wb wc:List Tz} (ha:WT a ra wa) (hb:WT b rb wb) (hc:WT c rc wc) :
   WT (cD 26 [a,b,c]) 7 (wd wCase::wd wWhen::(wa++(wd wThen::(wb++(wd wElse::(wc++[wd wEnd]))))))
 | rows:WT (.mk 41 0 1 [] [] []) 7 [wd wCount,sg bF,sg fV,sg aY]
 | agg {n:Int} {a:Tm} {ra:Nat} {wa:List Tz} (hn:2≤n∧n≤6) (ha:WT a ra wa):WT (.mk 41 0 n [] [] [a]) 7 (aET n++(wa++[sg aY]))
 | null {y:Int} (hy:1≤y∧y≤3):WT (.mk 1 y 0 [] [] []) 7 [wd wNull,wd (TR y)]
 | int {n:Int} {w:List UInt8} (h0:0≤n) (hw:n=0→w=[48]):WT (.mk 2 0 n [] [] []) 7 [(2,w,w,n)]
 | intN {n:Int} {w:List UInt8} (h0:n<0) (h1:-1000000000000≤n) (hw:w ≠ [48]):WT (.mk 2 0 n [] [] []) 6 [sg gB,(2,w,w,-n)]
 | tru:WT (.mk 3 0 1 [] [] []) 7 [wd wTrue]
 | fls:WT (cD 3 []) 7 [wd wFalse]
 | text {t w:List UInt8}:WT (.mk 4 0 0 t [] []) 7 [(3,w,t,0)]
 | name {t:List UInt8} (ht:bP jZ t=true):WT (.mk 40 0 0 t [] []) 7 [wd t]
 | qual {t q:List UInt8} (ht:bP jZ t=true) (hq:bP jZ q=true):WT (.mk 40 0 0 t q []) 7 [wd q,sg qJ,wd t]
inductive WTs:List Tm→List (List Tz)→Prop
 | nil:WTs [] []
 | cons {a:Tm} {ra:Nat} {wa:List Tz} {ks:List Tm} {ws:List (List Tz)} (ha:WT a ra wa) (hk:WTs ks ws):WTs (a::ks) (wa::ws)
end
theorem eI {l:List Tk} {w1 w2:List Tz} (h:er l=w1++w2):∃ l1 l2,l=l1++l2∧er l1=w1∧er l2=w2:=by
 obtain ⟨l1,l2,e,h1,h2⟩:=List.map_eq_append_iff.1 h
 exact ⟨l1,l2,e,h1,h2⟩
theorem aW {l:List Tk} {x:Tz} {w:List Tz} (h:er l=x::w):∃ t l2,l=t::l2∧t.er=x∧er l2=w:=by
 obtain ⟨t,l2,e,h1,h2⟩:=List.map_eq_cons_iff.1 h
 exact ⟨t,l2,e,h1,h2⟩
theorem eO {l:List Tk} (h:er l=[]):l=[]:=List.map_eq_nil_iff.1 h
def TS (r:Nat) (z:Tz):Bool :=
 let x:=z.2.1
 if z.1==2 then true else if z.1==3 then true else (z.1==1||z.1==4)&&(x != fV&&(x != aO&&((r≤2||x != wNot)&&(r≤6||x != gB))))
def HdOk (r:Nat) (w:List Tz):Prop:=∃ z w',w=z::w'∧TS r z=true
theorem FH {r q:Nat} {z:Tz} (h:TS r z=true) (hq:q≤r):TS q z=true:=by
 unfold TS at *
 by_cases k2:z.1=2
 ·simp [k2]
 by_cases k3:z.1=3
 ·simp [k3]
 simp only [beq_iff_eq,k2,k3,if_false,Bool.and_eq_true,Bool.or_eq_true,decide_eq_true_eq] at *
 obtain ⟨a,b,c,d,e⟩:=h
 refine ⟨a,b,c,?_,?_⟩
 ·rcases d with d | d
  ·exact .inl (by omega)
  ·exact .inr d
 ·rcases e with d | d
  ·exact .inl (by omega)
  ·exact .inr d
theorem HdOk.isW {r:Nat} {w:List Tz} (h:HdOk r w) {l:List Tk} (hl:er l=w) (rest:List Tk) :
  isW fV (l++rest)=false∧isW aO (l++rest)=false∧(2<r→isW wNot (l++rest)=false)∧(6<r→isW gB (l++rest)=false):=by
 obtain ⟨z,w',rfl,hz⟩:=h
 obtain ⟨t,l2,rfl,ht,_⟩:=aW hl
 unfold Tk.er at ht
 subst ht
 have e:∀ w,Go.Proofs.Tryz.isW w (t::l2++rest)=((t.kd==1||t.kd==4)&&t.rw==w):=fun _=>rfl
 simp only [e]
 unfold TS at hz
 by_cases k2:t.kd=2
 ·simp [k2]
 by_cases k3:t.kd=3
 ·simp [k3]
 simp only [beq_iff_eq,k2,k3,if_false,Bool.and_eq_true,Bool.or_eq_true,decide_eq_true_eq,bne_iff_ne,ne_eq] at hz
 obtain ⟨_,h1,h2,h3,h4⟩:=hz
 have f:∀ w,¬ t.rw=w→((t.kd==1||t.kd==4)&&t.rw==w)=false:=fun w hw=>by
  rw [show (t.rw==w)=false from by simpa using hw,Bool.and_false]
 refine ⟨f _ h1,f _ h2,fun hr=>f _ ?_,fun hr=>f _ ?_⟩
 ·rcases h3 with h | h
  ·omega
  ·exact h
 ·rcases h4 with h | h
  ·omega
  ·exact h
def ChR (r:Nat) (l:List Tk) (t:Tm) (rest:List Tk):Prop :=
 ∃ t0 l0 c,Reads (r+1) l t0 l0∧rest.length+c≤l0.length∧∃ n0,∀ n,n0≤n→∀ k,cW (bA n (r+1)) (DY r) (lvO r) (k+c) t0 l0=cW (bA n (r+1)) (DY r) (lvO r) k t rest
structure gQ (t:Tm) (r:Nat) (w:List Tz):Prop where
 rk:r≤7
 hd:HdOk r w
 rd:∀ l rest,er l=w→∀ lvl,lvl≤r→Stp lvl rest→Reads lvl (l++rest) t rest
 ch:(r=0∨r=1∨r=4∨r=5)→∀ l rest,er l=w→Stp (r+1) rest→ChR r (l++rest) t rest
theorem oT {t:Tm} {r:Nat} {w:List Tz} (hr:r≤7) (hd:HdOk r w) (h:∀ l rest,er l=w→Stp r rest→Reads r (l++rest) t rest):∀ l rest,er l=w→∀ lvl,lvl≤r→Stp lvl rest→Reads lvl (l++rest) t rest:=by
 intro l rest hl lvl hv hs
 obtain ⟨_,_,h3,h4⟩:=hd.isW hl rest
 exact pR (r - lvl) r lvl hr (by omega) (h l rest hl (hs.up (zX lvl (by omega) r hr hv))) hs (fun _ b=>h3 b) (fun _ b=>h4 b)
theorem sD (lvl:Nat) {tk:Tk} (h:tk.er=sg aY) (r:List Tk):Stp lvl (tk::r):=HV (.inr h) (by
 match lvl with
 | 0=>decide
 | 1=>decide
 | 2=>decide
 | 3=>decide
 | 4=>decide
 | 5=>decide
 | n+6=>exact (by decide:aY ∉ [qJ]))
theorem eL {w:List UInt8} {tk:Tk} {r:List Tk} (h:isW w (tk::r)=true):cQ [w] (tk::r)=.ok r:=by
 rw [cQ,if_pos h]; rfl
theorem vC {tk:Tk} {x:List UInt8} (h:tk.er=wd x∨tk.er=sg x):¬ tk.kd=2∧¬ tk.kd=3:=by
 unfold Tk.er wd sg at h
 rcases h with h | h <;> (simp only [Prod.mk.injEq] at h; omega)
theorem CE {a:Tm} {ra:Nat} {wa:List Tz} (h:gQ a ra wa) {l:List Tk} (hl:er l=sg bF::(wa++[sg aY])) (rest:List Tk):Reads 7 (l++rest) a rest:=by
 obtain ⟨t1,l1,rfl,h1,hl⟩:=aW hl
 obtain ⟨l2,l3,rfl,h2,hl⟩:=eI hl
 obtain ⟨t4,l4,rfl,h4,hl⟩:=aW hl
 rw [eO hl]
 obtain ⟨n0,hr⟩:=h.rd l2 (t4::rest) h2 0 (Nat.zero_le _) (sD 0 h4 rest)
 refine ⟨n0+1,fun n hn=>?_⟩
 obtain ⟨m,rfl⟩:∃ m,n=m+1:=⟨n - 1,by omega⟩
 have hm:=hr m (by omega)
 obtain ⟨k2,k3⟩:=vC (.inr h1)
 have q:=fun w=>eY (.inr h1) (l2++t4::rest) w
 have e:(t1::(l2++[t4])++rest)=t1::(l2++t4::rest):=by simp
 rw [e,bA,if_neg k2,if_neg k3,q,q,q,q,if_neg (by decide),if_neg (by decide),if_neg (by decide),if_pos (by decide),hm]
 show cR (cQ [aY] (t4::rest)) _=_
 rw [eL (by rw [eY (.inr h4)]; decide)]
 rfl
theorem PM {r:Nat} {wa:List Tz}:HdOk r (sg bF::wa):=⟨_,_,rfl,by
 unfold TS sg
 simp
 refine ⟨by decide,by decide,?_,?_⟩
 ·right; decide
 ·right; decide⟩
theorem mI {a:Tm} {ra:Nat} {wa:List Tz} (h:gQ a ra wa) {want:Nat} (hw:want≤7):HdOk want (uB want ra wa)∧∀ l rest,er l=uB want ra wa→Stp want rest→Reads want (l++rest) a rest:=by
 unfold uB
 split
 ·refine ⟨PM,fun l rest hl hs=>?_⟩
  have h7:=CE h hl rest
  obtain ⟨_,_,h3,h4⟩:=(PM (r:=7) (wa:=wa++[sg aY])).isW hl rest
  exact pR (7 - want) 7 want (by omega) (by omega) h7 hs (fun _ _=>h3 (by omega)) (fun _ _=>h4 (by omega))
 ·rename_i hlt
  refine ⟨?_,fun l rest hl hs=>h.rd l rest hl want (by omega) hs⟩
  obtain ⟨z,w',e,hz⟩:=h.hd
  exact ⟨z,w',e,FH hz (by omega)⟩
theorem aKu {a:Tm} {ra:Nat} {wa:List Tz} (h:gQ a ra wa) {r:Nat} (hr:r=0∨r=1∨r=4∨r=5):∀ l rest,er l=uB r ra wa→Stp (r+1) rest→ChR r (l++rest) a rest:=by
 intro l rest hl hs
 by_cases he:ra=r
 ·subst he
  unfold uB at hl
  rw [if_neg (by omega)] at hl
  exact h.ch hr l rest hl hs
 ·have:Reads (r+1) (l++rest) a rest:=by
   unfold uB at hl
   split at hl
   ·have h7:=CE h hl rest
    obtain ⟨_,_,h3,h4⟩:=(PM (r:=7) (wa:=wa++[sg aY])).isW hl rest
    exact pR (7 - (r+1)) 7 (r+1) (by omega) (by omega) h7 hs (fun _ _=>h3 (by omega)) (fun _ _=>h4 (by omega))
   ·exact h.rd l rest hl (r+1) (by omega) hs
  exact ⟨a,rest,0,this,by omega,0,fun n _ k=>rfl⟩
theorem aCX {p:List Tk→cY Tm} {r:Nat} {rest:List Tk} (h:bN (DY r) rest=none) (k:Nat) (t:Tm):cW p (DY r) (lvO r) k t rest=.ok (t,rest):=by
 cases k with
 | zero=>rfl
 | succ k=>rw [cW,h]
theorem aKv {r:Nat} (hr:r=0∨r=1∨r=4∨r=5):∀ w∈DY r,w∈lA r:=by
 rcases hr with rfl | rfl | rfl | rfl <;> decide
theorem aEU {r:Nat} (hr:r=0∨r=1∨r=4∨r=5) {l rest:List Tk} {t:Tm} (h:ChR r l t rest) (hs:Stp r rest):Reads r l t rest:=by
 obtain ⟨t0,l0,c,⟨n1,h1⟩,hlen,n2,h2⟩:=h
 refine ⟨max n1 n2+1,fun n hn=>?_⟩
 obtain ⟨m,rfl⟩:∃ m,n=m+1:=⟨n - 1,by omega⟩
 have e1:=h1 m (by omega)
 have e2:=h2 m (by omega) (l0.length - c)
 rw [Nat.sub_add_cancel (by omega),aCX (hs.one (aKv hr))] at e2
 rcases hr with rfl | rfl | rfl | rfl <;> (rw [bA,e1]; exact e2)
theorem aKw {r i:Nat} (hr:r=0∨r=1∨r=4∨r=5) (hi:i<(DY r).length):((DY r)[i]?).getD [] ∉ lA (r+1)∧(DY r).findIdx? (fun w=>((DY r)[i]?).getD []==w)=some i:=by
 rcases hr with rfl | rfl | rfl | rfl
 ·have:i=0:=by simp [DY] at hi; omega
  subst this; decide
 ·have:i=0:=by simp [DY] at hi; omega
  subst this; decide
 ·have:i=0∨i=1∨i=2:=by simp [DY,mM] at hi; omega
  rcases this with rfl | rfl | rfl <;> decide
 ·have:i=0∨i=1∨i=2:=by simp [DY,mC] at hi; omega
  rcases this with rfl | rfl | rfl <;> decide
theorem aEV {ws:List (List UInt8)} {tk:Tk} {x:List UInt8} {i:Nat} (h:tk.er=tz x) (hx:ws.findIdx? (fun w=>x==w)=some i) (r:List Tk):bN ws (tk::r)=some i:=by
 unfold bN
 have:(fun w=>isW w (tk::r))=fun w=>x==w:=by funext w; exact aKt h r w
 rw [this]
 exact hx
theorem HW {r:Nat} {w v:List Tz} (h:HdOk r w):HdOk r (w++v):=by
 obtain ⟨z,w',rfl,hz⟩:=h
 exact ⟨z,w'++v,rfl,hz⟩
theorem aEW {r i:Nat} {a b:Tm} {ra rb:Nat} {wa wb:List Tz} (hr:r=0∨r=1∨r=4∨r=5) (hi:i<(DY r).length) (ha:gQ a ra wa) (hb:gQ b rb wb) :
  gQ (cD (((lvO r)[i]?).getD 0) [a,b]) r (uB r ra wa++(tz (((DY r)[i]?).getD [])::uB (r+1) rb wb)):=by
 have hr7:r≤7:=by omega
 have hch:∀ l rest,er l=uB r ra wa++(tz (((DY r)[i]?).getD [])::uB (r+1) rb wb)→Stp (r+1) rest→ChR r (l++rest) (cD (((lvO r)[i]?).getD 0) [a,b]) rest:=by
  intro l rest hl hs
  obtain ⟨l1,l2,rfl,h1,hl⟩:=eI hl
  obtain ⟨tk,l3,rfl,h2,h3⟩:=aW hl
  obtain ⟨o1,o2⟩:=aKw hr hi
  obtain ⟨t0,l0,c,hR,hlen,n2,hc⟩:=aKu ha hr l1 (tk::(l3++rest)) h1 (aEQ h2 o1)
  obtain ⟨n1,hbr⟩:=(mI hb (want:=r+1) (by omega)).2 l3 rest h3 hs
  refine ⟨t0,l0,c+1,by simpa using hR,by simp at hlen; omega,max n1 n2,fun n hn k=>?_⟩
  have e:=hc n (by omega) (k+1)
  rw [show k+1+c=k+(c+1) from by omega] at e
  rw [e,cW,aEV h2 o2]
  simp only [List.tail_cons]
  rw [hbr n (by omega)]
 refine ⟨hr7,HW (mI ha hr7).1,oT hr7 (HW (mI ha hr7).1) fun l rest hl hs=>aEU hr (hch l rest hl (hs.up (zX r hr7 (r+1) (by omega) (by omega)))) hs,fun _=>hch⟩
end Go.Proofs.Tryz
