import Derived.Test.YthpmjipkofbeiaaGreatDoorTNxt
set_option linter.all false
namespace Go.Proofs.Tryz
open Go.Ab
set_option maxRecDepth 100000
set_option maxHeartbeats 8000000
def sgB (o:Int):Option (List UInt8×Nat×Nat×Nat) :=
 if o=23 then some (wOr,0,0,1) else if o=22 then some (wAnd,1,1,2)
 else if 14≤o∧o≤20 then some ((cmpW[(o - 14).toNat]?).getD [],3,4,4)
 else if o=6 then some ([43],4,4,5) else if o=7 then some ([45],4,4,5) else if o=12 then some ([124,124],4,4,5)
 else if o=8 then some ([42],5,5,6) else if o=9 then some ([47],5,5,6) else if o=10 then some ([109,111,100],5,5,6)
 else none
def rkO (o n:Int):Nat:=match sgB o with
 | some x=>x.2.1
 | none=>if o=24 then 2 else if o=21∨o=25∨o=28 then 3 else if o=11∨(o=2∧n<0) then 6 else 7
def rkT:Tm→Nat
 | .mk o _ n _ _ _=>rkO o n
def plB (want r:Nat) (s:List UInt8):List UInt8:=if r<want then 40::(s++[41]) else s
def joinB:List (List UInt8)→List UInt8
 | []=>[]
 | [s]=>s
 | s::r=>s++44::32::joinB r
def aggB (n:Int):List UInt8:=if n=2 then wCount++[40] else if n=3 then wCount++40::(wDistinct++[32]) else if n=4 then wSum++[40] else if n=5 then wMin++[40] else wMax++[40]
def at1 {α:Type} (l:List α) (d:α) (i:Nat):α:=(l[i]?).getD d
def wrO (o y n:Int) (t q:List UInt8) (ks:List Tm) (W:List (List UInt8)):List UInt8:=match sgB o with
 | some x=>plB x.2.2.1 (at1 (ks.map rkT) 0 0) (at1 W [] 0)++32::(x.1++32::plB x.2.2.2 (at1 (ks.map rkT) 0 1) (at1 W [] 1))
 | none =>
   if o=1 then wNull++32::typW y
   else if o=2 then Lib.itoa n
   else if o=3 then (if n=1 then wTrue else wFalse)
   else if o=4 then 39::(t++[39])
   else if o=24 then wNot++32::plB 2 (at1 (ks.map rkT) 0 0) (at1 W [] 0)
   else if o=21 then plB 4 (at1 (ks.map rkT) 0 0) (at1 W [] 0)++32::(wIs++32::wNull)
   else if o=25 then plB 4 (at1 (ks.map rkT) 0 0) (at1 W [] 0)++32::(wIs++32::wTrue)
   else if o=28 then plB 4 (at1 (ks.map rkT) 0 0) (at1 W [] 0)++32::(wIn++32::(40::(joinB (W.drop 1)++[41])))
   else if o=11 then (if posN (at1 ks zeT 0)=true then 45::40::(at1 W [] 0++[41]) else 45::plB 6 (at1 (ks.map rkT) 0 0) (at1 W [] 0))
   else if o=13 then wLength++40::(at1 W [] 0++[41])
   else if o=27 then wCoalesce++40::(joinB W++[41])
   else if o=26 then wCase++32::(wWhen++32::(at1 W [] 0++32::(wThen++32::(at1 W [] 1++32::(wElse++32::(at1 W [] 2++32::wEnd))))))
   else if o=41 then (if n=1 then wCount++[40,42,41] else aggB n++(at1 W [] 0++[41]))
   else if q=[] then t else q++46::t
mutual
def wr:Tm→List UInt8
 | .mk o y n t q ks=>wrO o y n t q ks (wrs ks)
def wrs:List Tm→List (List UInt8)
 | []=>[]
 | k::ks=>wr k::wrs ks
end
theorem wrs_map:∀ l:List Tm,wrs l=l.map wr
 | []=>rfl
 | k::ks=>by rw [wrs,wrs_map ks]; rfl
mutual
/-- Terms that are as they have to be. -/
inductive WfT:Tm→Prop
 | chn {r i:Nat} {a b:Tm} (hr:r=0∨r=1∨r=4∨r=5) (hi:i<(lvS r).length) (ha:WfT a) (hb:WfT b):WfT (mkT (((lvO r)[i]?).getD 0) [a,b])
 | cmp {i:Nat} {a b:Tm} (hi:i<7) (ha:WfT a) (hb:WfT b):WfT (mkT (14+i) [a,b])
 | no {a:Tm} (ha:WfT a):WfT (mkT 24 [a])
 | isNull {a:Tm} (ha:WfT a):WfT (mkT 21 [a])
 | isTrue {a:Tm} (ha:WfT a):WfT (mkT 25 [a])
 | isIn {a:Tm} {ks:List Tm} (ha:WfT a) (hk:WfTs ks) (hn:ks ≠ []):WfT (mkT 28 (a::ks))
 | neg {a:Tm} (ha:WfT a):WfT (mkT 11 [a])
 | len {a:Tm} (ha:WfT a):WfT (mkT 13 [a])
 | coal {a b:Tm} (ha:WfT a) (hb:WfT b):WfT (mkT 27 [a,b])
 | case {a b c:Tm} (ha:WfT a) (hb:WfT b) (hc:WfT c):WfT (mkT 26 [a,b,c])
 | rows:WfT (.mk 41 0 1 [] [] [])
 | agg {n:Int} {a:Tm} (hn:2≤n∧n≤6) (ha:WfT a):WfT (.mk 41 0 n [] [] [a])
 | null {y:Int} (hy:1≤y∧y≤3):WfT (.mk 1 y 0 [] [] [])
 | int {n:Int} (h0:-1000000000000≤n) (h1:n≤1000000000000):WfT (.mk 2 0 n [] [] [])
 | tru:WfT (.mk 3 0 1 [] [] [])
 | fls:WfT (mkT 3 [])
 | text {t:List UInt8} (ht:textOk t=true):WfT (.mk 4 0 0 t [] [])
 | name {t:List UInt8} (ht:nameOk rsv t=true):WfT (.mk 40 0 0 t [] [])
 | qual {t q:List UInt8} (ht:nameOk rsv t=true) (hq:nameOk rsv q=true):WfT (.mk 40 0 0 t q [])
inductive WfTs:List Tm→Prop
 | nil:WfTs []
 | cons {a:Tm} {ks:List Tm} (ha:WfT a) (hk:WfTs ks):WfTs (a::ks)
end
def Has (t:Tm):Prop:=∃ w,WT t (rkT t) w∧Lexes (wr t) w∧w ≠ []
theorem wt_ne {t:Tm} {r:Nat} {w:List Tz} (h:WT t r w):w ≠ []:=by
 obtain ⟨z,w',e,_⟩:=(back h).hd
 rw [e]; simp
theorem plc_lex {a:Tm} {w:List Tz} (h:Lexes (wr a) w) (want:Nat):Lexes (plB want (rkT a) (wr a)) (plc want (rkT a) w):=by
 unfold plB plc
 split
 ·exact lexes_par h
 ·exact h
theorem plc_ne {want r:Nat} {w:List Tz} (h:w ≠ []):plc want r w ≠ []:=by
 unfold plc
 split
 ·simp
 ·exact h
theorem lexes_w {x:List UInt8} (hx:nameB2 x=true):Lexes x [wd x]:=by
 unfold nameB2 at hx
 cases x with
 | nil=>cases hx
 | cons c q =>
   simp only [Bool.and_eq_true,List.all_eq_true,decide_eq_true_eq] at hx
   exact lexes_word hx.1 hx.2.1 hx.2.2
theorem lexes_wb {x:List UInt8} (hx:nameB2 x=true) {s:List UInt8} {w:List Tz} (h:Lexes s w) (hw:w ≠ []):Lexes (x++32::s) (wd x::w):=lexes_sp (lexes_w hx) h hw
theorem lexes_fn {x:List UInt8} (hx:nameB2 x=true) {s:List UInt8} {w:List Tz} (h:Lexes s w):Lexes (x++40::(s++[41])) (wd x::sg wOpen::(w++[sg wShut])) :=
 lexes_app (lexes_w hx) (lexes_par h) fun rest _=>sep_cons (by decide) _
theorem chn_op {r i:Nat} (hr:r=0∨r=1∨r=4∨r=5) (hi:i<(lvS r).length):sgB (((lvO r)[i]?).getD 0)=some (((lvS r)[i]?).getD [],r,r,r+1)∧((lvS r)[i]?).getD []∈opsL:=by
 rcases hr with rfl | rfl | rfl | rfl
 ·have:i=0:=by simp [lvS] at hi; omega
  subst this; decide
 ·have:i=0:=by simp [lvS] at hi; omega
  subst this; decide
 ·have:i=0∨i=1∨i=2:=by simp [lvS,addW] at hi; omega
  rcases this with rfl | rfl | rfl <;> decide
 ·have:i=0∨i=1∨i=2:=by simp [lvS,mulW] at hi; omega
  rcases this with rfl | rfl | rfl <;> decide
theorem cmp_op {i:Nat} (hi:i<7):sgB (14+i)=some ((cmpW[i]?).getD [],3,4,4)∧(cmpW[i]?).getD []∈opsL:=by
 have:i=0∨i=1∨i=2∨i=3∨i=4∨i=5∨i=6:=by omega
 rcases this with rfl | rfl | rfl | rfl | rfl | rfl | rfl <;> decide
theorem two_lex {o:Int} {a b:Tm} {x:List UInt8} {r lf rg:Nat} (ho:sgB o=some (x,r,lf,rg)) (hx:x∈opsL) {wa wb:List Tz} (ha:Lexes (wr a) wa) (hb:Lexes (wr b) wb) (nb:wb ≠ []) :
  rkT (mkT o [a,b])=r∧Lexes (wr (mkT o [a,b])) (plc lf (rkT a) wa++(tz x::plc rg (rkT b) wb)):=by
 refine ⟨?_,?_⟩
 ·show (match sgB o with
   | some x=>x.2.1
   | none=>_)=r
  rw [ho]
 ·unfold mkT
  rw [wr,wrO,ho]
  exact lexes_sp (plc_lex ha lf) (lexes_opb hx (plc_lex hb rg) (plc_ne nb)) (by simp)
def HasL:List Tm→Prop
 | []=>True
 | a::ks=>Has a∧HasL ks
theorem join_lex:∀ (ks:List Tm),HasL ks→ks ≠ []→∃ ws,WTs ks ws∧Lexes (joinB (wrs ks)) (commas ws)∧commas ws ≠ []
 | [],_,h=>absurd rfl h
 | [a],⟨⟨w,h1,h2,h3⟩,_⟩,_=>⟨[w],.cons h1 .nil,h2,h3⟩
 | a::b::ks,⟨⟨w,h1,h2,h3⟩,hk⟩,_=>by
   obtain ⟨ws,g1,g2,g3⟩:=join_lex (b::ks) hk (by simp)
   have hne:ws ≠ []:=fun e=>by subst e; cases g1
   refine ⟨w::ws,.cons h1 g1,?_,?_⟩
   ·rw [commas_cons hne]
    exact lexes_comma h2 g2 g3
   ·rw [commas_cons hne]; simp
theorem wr1 {o:Int} {a:Tm} {P:List UInt8→Prop} (h:P (wrO o 0 0 [] [] [a] [wr a])):P (wr (mkT o [a])):=by
 unfold mkT
 rw [wr,wrs,wrs]
 exact h
mutual
theorem has:∀ {t:Tm},WfT t→Has t
 | _,.chn hr hi ha hb=>by
   obtain ⟨wa,a1,a2,a3⟩:=has ha
   obtain ⟨wb,b1,b2,b3⟩:=has hb
   obtain ⟨o1,o2⟩:=chn_op hr hi
   obtain ⟨q1,q2⟩:=two_lex o1 o2 a2 b2 b3
   rw [Has,q1]
   have hw:=WT.chn hr hi a1 b1
   exact ⟨_,hw,q2,wt_ne hw⟩
 | _,.cmp hi ha hb=>by
   obtain ⟨wa,a1,a2,a3⟩:=has ha
   obtain ⟨wb,b1,b2,b3⟩:=has hb
   obtain ⟨o1,o2⟩:=cmp_op hi
   obtain ⟨q1,q2⟩:=two_lex o1 o2 a2 b2 b3
   rw [Has,q1]
   have hw:=WT.cmp hi a1 b1
   exact ⟨_,hw,q2,wt_ne hw⟩
 | _,.no ha=>by
   obtain ⟨wa,a1,a2,a3⟩:=has ha
   have hw:=WT.no a1
   exact ⟨_,hw,wr1 (P:=fun s=>Lexes s _) (lexes_wb (x:=wNot) (by decide) (plc_lex a2 2) (plc_ne a3)),wt_ne hw⟩
 | _,.isNull ha=>by
   obtain ⟨wa,a1,a2,a3⟩:=has ha
   have hw:=WT.isNull a1
   exact ⟨_,hw,wr1 (P:=fun s=>Lexes s _) (lexes_sp (plc_lex a2 4) (lexes_wb (x:=wIs) (by decide) (lexes_w (x:=wNull) (by decide)) (by simp)) (by simp)),wt_ne hw⟩
 | _,.isTrue ha=>by
   obtain ⟨wa,a1,a2,a3⟩:=has ha
   have hw:=WT.isTrue a1
   exact ⟨_,hw,wr1 (P:=fun s=>Lexes s _) (lexes_sp (plc_lex a2 4) (lexes_wb (x:=wIs) (by decide) (lexes_w (x:=wTrue) (by decide)) (by simp)) (by simp)),wt_ne hw⟩
 | _,.isIn (a:=a) (ks:=ks) ha hk hn=>by
   obtain ⟨wa,a1,a2,a3⟩:=has ha
   obtain ⟨ws,g1,g2,g3⟩:=join_lex _ (hass hk) hn
   have hw:=WT.isIn a1 g1 hn
   refine ⟨_,hw,?_,wt_ne hw⟩
   unfold mkT
   rw [wr,wrs]
   exact lexes_sp (plc_lex a2 4) (lexes_wb (x:=wIn) (by decide) (lexes_par g2) (by simp)) (by simp)
 | _,.neg (a:=a) ha=>by
   obtain ⟨wa,a1,a2,a3⟩:=has ha
   by_cases hp:posN a=true
   ·have hw:=WT.negP a1
    refine ⟨_,hw,wr1 (P:=fun s=>Lexes s _) ?_,wt_ne hw⟩
    show Lexes (if posN a=true then _ else _) _
    rw [if_pos hp]
    exact lexes_minus (lexes_par a2)
   ·have hw:=WT.neg a1 (by simpa using hp)
    refine ⟨_,hw,wr1 (P:=fun s=>Lexes s _) ?_,wt_ne hw⟩
    show Lexes (if posN a=true then _ else _) _
    rw [if_neg hp]
    exact lexes_minus (plc_lex a2 6)
 | _,.len ha=>by
   obtain ⟨wa,a1,a2,a3⟩:=has ha
   have hw:=WT.len a1
   exact ⟨_,hw,wr1 (P:=fun s=>Lexes s _) (lexes_fn (x:=wLength) (by decide) a2),wt_ne hw⟩
 | _,.coal ha hb=>by
   obtain ⟨wa,a1,a2,a3⟩:=has ha
   obtain ⟨wb,b1,b2,b3⟩:=has hb
   have hw:=WT.coal a1 b1
   refine ⟨_,hw,?_,wt_ne hw⟩
   unfold mkT
   rw [wr,wrs,wrs,wrs]
   have:=lexes_fn (x:=wCoalesce) (by decide) (lexes_comma a2 b2 b3)
   rw [List.append_assoc wa] at this
   exact this
 | _,.case ha hb hc=>by
   obtain ⟨wa,a1,a2,a3⟩:=has ha
   obtain ⟨wb,b1,b2,b3⟩:=has hb
   obtain ⟨wc,c1,c2,c3⟩:=has hc
   have hw:=WT.case a1 b1 c1
   refine ⟨_,hw,?_,wt_ne hw⟩
   unfold mkT
   rw [wr,wrs,wrs,wrs,wrs]
   exact lexes_wb (x:=wCase) (by decide) (lexes_wb (x:=wWhen) (by decide) (lexes_sp a2 (lexes_wb (x:=wThen) (by decide) (lexes_sp b2 (lexes_wb (x:=wElse) (by decide) (lexes_sp c2 (lexes_w (x:=wEnd) (by decide)) (by simp)) (by simp)) (by simp)) (by simp)) (by simp)) (by simp)) (by simp)
 | _,.rows=>by
   have hw:=WT.rows
   refine ⟨_,hw,?_,wt_ne hw⟩
   rw [wr,wrs]
   show Lexes (wCount++[40,42,41]) ([wd wCount]++[sg wOpen,sg wStar,sg wShut])
   refine lexes_app (lexes_w (x:=wCount) (by decide)) (fun rest k hr=>?_) fun rest _=>sep_cons (by decide) _
   show zlex (k+3) (40::42::41::rest)=_
   rw [sign_one 40 (by decide),sign_one 42 (by decide),sign_one 41 (by decide)]
   rfl
 | _,.agg (n:=n) (a:=a) hn ha=>by
   obtain ⟨wa,a1,a2,a3⟩:=has ha
   have hw:=WT.agg hn a1
   refine ⟨_,?_,?_,wt_ne hw⟩
   ·exact hw
   ·rw [wr,wrs,wrs]
    show Lexes (if n=1 then _ else aggB n++(wr a++[41])) _
    rw [if_neg (by omega)]
    have:n=2∨n=3∨n=4∨n=5∨n=6:=by omega
    rcases this with rfl | rfl | rfl | rfl | rfl
    ·exact lexes_fn (x:=wCount) (by decide) a2
    ·have h1:Lexes (wDistinct++32::wr a) (wd wDistinct::wa):=lexes_wb (by decide) a2 a3
     have:=lexes_fn (x:=wCount) (by decide) h1
     simpa [aggB,aggN] using this
    ·exact lexes_fn (x:=wSum) (by decide) a2
    ·exact lexes_fn (x:=wMin) (by decide) a2
    ·exact lexes_fn (x:=wMax) (by decide) a2
 | _,.null (y:=y) hy=>by
   have hw:=WT.null hy
   refine ⟨_,hw,?_,wt_ne hw⟩
   rw [wr,wrs]
   show Lexes (wNull++32::typW y) _
   have:y=1∨y=2∨y=3:=by omega
   rcases this with rfl | rfl | rfl
   ·exact lexes_wb (x:=wNull) (by decide) (lexes_w (x:=wInt) (by decide)) (by simp)
   ·exact lexes_wb (x:=wNull) (by decide) (lexes_w (x:=wBool) (by decide)) (by simp)
   ·exact lexes_wb (x:=wNull) (by decide) (lexes_w (x:=wText) (by decide)) (by simp)
 | _,.int (n:=n) h0 h1=>by
   by_cases hn:n<0
   ·obtain ⟨u,rfl⟩:∃ u:Nat,n=-(u:Int):=⟨n.natAbs,by omega⟩
    have hne:Lib.decDigits u ≠ [48]:=fun e=>by
     have:=dval_digits u
     rw [e] at this
     simp [dval] at this
     omega
    have hw:=WT.intN (n:=-(u:Int)) (w:=Lib.decDigits u) hn h0 hne
    have hr:rkT (.mk 2 0 (-(u:Int)) [] [] [])=6:=by
     show (if (2:Int)=24 then 2 else if (2:Int)=21∨(2:Int)=25∨(2:Int)=28 then 3 else if (2:Int)=11∨((2:Int)=2∧-(u:Int)<0) then 6 else 7)=6
     rw [if_neg (by decide),if_neg (by decide),if_pos (.inr ⟨rfl,hn⟩)]
    rw [Has,hr]
    refine ⟨_,hw,?_,wt_ne hw⟩
    rw [wr,wrs]
    show Lexes (Lib.itoa (-(u:Int))) _
    rw [Lib.itoa_neg u (by omega),Int.neg_neg]
    exact lexes_minus (lexes_num (by omega))
   ·obtain ⟨u,rfl⟩:∃ u:Nat,n=(u:Int):=⟨n.toNat,by omega⟩
    have hw:=WT.int (n:=(u:Int)) (w:=Lib.decDigits u) (by omega) (fun h=>by
     have:u=0:=by omega
     subst this
     unfold Lib.decDigits
     decide)
    have hr:rkT (.mk 2 0 (u:Int) [] [] [])=7:=by
     show (if (2:Int)=24 then 2 else if (2:Int)=21∨(2:Int)=25∨(2:Int)=28 then 3 else if (2:Int)=11∨((2:Int)=2∧(u:Int)<0) then 6 else 7)=7
     rw [if_neg (by decide),if_neg (by decide),if_neg (by omega)]
    rw [Has,hr]
    refine ⟨_,hw,?_,wt_ne hw⟩
    rw [wr,wrs]
    show Lexes (Lib.itoa (u:Int)) _
    rw [Lib.itoa_nonneg]
    exact lexes_num (by omega)
 | _,.tru=>⟨_,WT.tru,lexes_w (x:=wTrue) (by decide),by simp⟩
 | _,.fls=>⟨_,WT.fls,lexes_w (x:=wFalse) (by decide),by simp⟩
 | _,.text ht=>⟨_,WT.text,lexes_text ht,by simp⟩
 | _,.name ht=>⟨_,WT.name ht,lexes_name ht,by simp⟩
 | _,.qual (t:=t) (q:=q) ht hq=>by
   have hw:=WT.qual ht hq
   refine ⟨_,hw,?_,wt_ne hw⟩
   rw [wr,wrs]
   show Lexes (if q=[] then t else q++46::t) _
   rw [if_neg (fun e=>by subst e; revert hq; decide)]
   refine lexes_app (lexes_name hq) (fun rest k hr=>?_) fun rest _=>sep_cons (by decide) _
   show zlex (k+1+1) (46::(t++rest))=_
   have:=lexes_name ht rest k hr
   rw [List.length_singleton] at this
   rw [sign_one 46 (by decide),this]
   rfl
theorem hass:∀ {ks:List Tm},WfTs ks→HasL ks
 | _,.nil=>trivial
 | _,.cons ha hk=>⟨has ha,hass hk⟩
end
theorem zlex_fuel:∀ (k m:Nat) (s:List UInt8),s.length<k→s.length<m→zlex k s=zlex m s
 | 0,m,s,h,_=>by omega
 | k+1,0,s,_,h=>by omega
 | k+1,m+1,s,h1,h2=>by
   rw [zlex,zlex]
   by_cases he:(lexR (s.dropWhile blankB)).1=0∨(lexR (s.dropWhile blankB)).1=5
   ·rw [if_pos he,if_pos he]
   ·rw [if_neg he,if_neg he]
    obtain ⟨g1,g2⟩:=lex_len (s.dropWhile blankB)
    have g3:=(List.dropWhile_sublist (l:=s) blankB).length_le
    have g4:1≤(lexR (s.dropWhile blankB)).2.1:=by
     rcases g2 with g | g | g
     ·exact absurd (.inl g) he
     ·exact absurd (.inr g) he
     ·exact g
    rw [zlex_fuel k m _ (by rw [List.length_drop]; omega) (by rw [List.length_drop]; omega)]
theorem toks_of {s:List UInt8} {w:List Tz} (h:Lexes s w):∃ l e,toks s=l++[e]∧er l=w∧e.kd=5:=by
 have h1:er (toks s)=zlex (s.length+1) s:=tokF_er s (s.length+1) 0
 have h2:=h [] (s.length+1) sep_nil
 rw [List.append_nil] at h2
 rw [zlex_fuel (s.length+1) (s.length+1+w.length) s (by omega) (by omega),h2] at h1
 obtain ⟨l,l2,e1,e2,e3⟩:=er_app h1
 have h3:zlex (s.length+1) []=[(5,[],[],0)]:=rfl
 rw [h3] at e3
 obtain ⟨e,l3,rfl,e4,e5⟩:=er_cons e3
 rw [er_nil e5] at e1
 exact ⟨l,e,e1,e2,congrArg (·.1) e4⟩
theorem wr_back {t:Tm} (h:WfT t) {n:Nat} (hn:9*(toks (wr t)).length+8≤n):∃ e,parP n 0 (toks (wr t))=.ok (t,[e])∧e.kd=5:=by
 obtain ⟨w,h1,h2,_⟩:=has h
 obtain ⟨l,e,e1,e2,e3⟩:=toks_of h2
 rw [e1] at hn ⊢
 refine ⟨e,term_back h1 e2 e3 (by simpa using hn),e3⟩
end Go.Proofs.Tryz
