import Derived.Test.YthpmjipkofbeiaaGreatDoorUVrp
import Derived.Test.YthpmjipkofbeiaaGreatDoorBcr
import Derived.Test.YthpmjipkofbeiaaGreatDoorURkp
set_option linter.all false
namespace Go.Proofs.Tryz
open Go.Ab
set_option maxRecDepth 100000
set_option maxHeartbeats 8000000
theorem aGL (o y n:Int) (t q:List UInt8):okS o y n t q =
  ((if o=1 then decide (1≤y)&&decide (y≤3) else if o=2 then (V.mk 1 n []).valid else if o=3 then n==0||n==1 else if o=4 then (V.mk 3 0 t).valid else if o=40 then bP words t&&(q==[]||bP words q) else if o=41 then decide (1≤n)&&decide (n≤6) else true)
    && (Tm.mk 0 (if o=1 then 0 else y) (if o=2∨o=3∨o=41 then 0 else n) (if o=4∨o=40 then [] else t) (if o=40 then [] else q) []).eq (.mk 0 0 0 [] [] [])):=by
 unfold okS
 rw [Tm.eq,vX]
 by_cases h1:o=1
 ·subst h1; simp
 by_cases h2:o=2
 ·subst h2; simp
 by_cases h3:o=3
 ·subst h3; simp
 by_cases h4:o=4
 ·subst h4; simp
 by_cases h40:o=40
 ·subst h40; simp
 by_cases h41:o=41
 ·subst h41; simp
 simp [h1,h2,h3,h4,h40,h41]
theorem aLW (o y n:Int) (t q:List UInt8):(Tm.mk o y n t q []).fits:=by rw [Tm.fits,cC]; simp
theorem BE:∀ (m:Nat) (x:Tm),SizeOf.sizeOf x<m→x.fits→Cf Es 47 [x.a] [] (.d (.bool x.right)) []
 | 0,_,h,_=>absurd h (by omega)
 | m+1,.mk o y n t q ks,hm,hfit=>by
   refine cI bI (fn:=Tryz.f47) rfl ?_
   rw [Tm.fits] at hfit
   have hall:=WL 47 Tm.right ks hfit.1 fun x hx=>BE m x (by
    have:=Tm.kid_lt (e:=.mk o y n t q ks) (k:=x) hx
    omega) (dL ks hfit.2 x hx)
   have hcn:=aDQ o y n t q ks
   have hv1:=iQ (nR ⟨1,n,[]⟩)
   have hv3:=iQ (nR ⟨3,0,t⟩)
   have hn1:=CK t
   have hn2:=CK q
   have hsame:=fun (y n:Int) (t q:List UInt8)=>iQ (tT _ (.mk 0 y n t q []) (.mk 0 0 0 [] [] []) (Nat.lt_succ_self _) (aLW 0 y n t q))
   rw [Tm.right,aLV,fG,aGL]
   generalize hC:uF o n ks.length=C at *
   generalize hK:ks.all Tm.right=K at *
   simp [Tm.a,Tm.c,aS]
   refine ⟨.ok,?_⟩
   refine aA hcn (by simp [Tm.a,Tm.c,aS]) ?_
   simp
   refine aI (fun h=>?_) (fun h=>?_)
   ·obtain rfl:C=true:=by simpa using h
    simp
    refine aP hall ?_
    cases K with
    | false =>
      simp
      all_goals exact gz
    | true =>
      clear hall hcn hC hK hm hfit
      simp
      refine ⟨.ok,.ok,.ok,.ok,?_⟩
      by_cases h1:o=1
      ·subst h1
       simp
       (repeat' (first|contradiction|exact .ok|apply And.intro|intro _|(refine gc (fun h=>?_) (fun h=>?_)<;>(have h':=h;(try simp at h');first|done|simp[h,h']|simp[Tm.c,aS]))))
       all_goals first | done | (refine aA (hsame 0 n t q) (by simp [Tm.a,Tm.c,aS]) ?_; simp; (repeat' (first|contradiction|exact .ok|apply And.intro|intro _|(refine gc (fun h=>?_) (fun h=>?_)<;>(have h':=h;(try simp at h');first|done|simp[h,h']|simp))))) | skip
       all_goals first | done | (simp_all; done) | (simp_all; omega)
      by_cases h2:o=2
      ·subst h2
       simp
       (repeat' (first|contradiction|exact .ok|apply And.intro|intro _|(refine gc (fun h=>?_) (fun h=>?_)<;>(have h':=h;(try simp at h');first|done|simp[h,h',Tm.c,aS]|simp[Tm.c,aS]))))
       all_goals first | (refine aA hv1 (by simp [V.a]) ?_; simp; (repeat' (first | contradiction | exact .of (by kernel_rfl) | refine And.intro ?_ ?_ | intro _ | (refine aI (fun h=>?_) (fun h=>?_) <;> (have h':=h; (try simp at h'); first | done | simp [h] | simp [Tm.c,aS]))))) | skip
       all_goals first | done | (refine aA (hsame y 0 t q) (by simp [Tm.a,Tm.c,aS]) ?_; simp; (repeat' (first|contradiction|exact .ok|apply And.intro|intro _|(refine gc (fun h=>?_) (fun h=>?_)<;>(have h':=h;(try simp at h');first|done|simp[h,h']|simp))))) | skip
       all_goals first | done | (simp_all; done) | (simp_all; omega)
      by_cases h3:o=3
      ·subst h3
       simp
       (repeat' (first|contradiction|exact .ok|apply And.intro|intro _|(refine gc (fun h=>?_) (fun h=>?_)<;>(have h':=h;(try simp at h');first|done|simp[h,h']|simp[Tm.c,aS]))))
       all_goals first | done | (refine aA (hsame y 0 t q) (by simp [Tm.a,Tm.c,aS]) ?_; simp; (repeat' (first|contradiction|exact .ok|apply And.intro|intro _|(refine gc (fun h=>?_) (fun h=>?_)<;>(have h':=h;(try simp at h');first|done|simp[h,h']|simp))))) | skip
       all_goals first | done | (simp_all; done) | (simp_all; omega)
      by_cases h4:o=4
      ·subst h4
       simp
       (repeat' (first|contradiction|exact .ok|apply And.intro|intro _|(refine gc (fun h=>?_) (fun h=>?_)<;>(have h':=h;(try simp at h');first|done|simp[h,h',Tm.c,aS]|simp[Tm.c,aS]))))
       all_goals first | (refine aA hv3 (by simp [V.a]) ?_; simp; (repeat' (first | contradiction | exact .of (by kernel_rfl) | refine And.intro ?_ ?_ | intro _ | (refine aI (fun h=>?_) (fun h=>?_) <;> (have h':=h; (try simp at h'); first | done | simp [h] | simp [Tm.c,aS]))))) | skip
       all_goals first | done | (refine aA (hsame y n [] q) (by simp [Tm.a,Tm.c,aS]) ?_; simp; (repeat' (first|contradiction|exact .ok|apply And.intro|intro _|(refine gc (fun h=>?_) (fun h=>?_)<;>(have h':=h;(try simp at h');first|done|simp[h,h']|simp))))) | skip
       all_goals first | done | (simp_all; done) | (simp_all; omega)
      by_cases h40:o=40
      ·subst h40
       simp
       (repeat' (first|contradiction|exact .ok|apply And.intro|intro _|(refine gc (fun h=>?_) (fun h=>?_)<;>(have h':=h;(try simp at h');first|done|simp[h,h',Tm.c,aS]|simp[Tm.c,aS]))))
       all_goals first | (refine aP hn1 ?_; simp; (repeat' (first|contradiction|exact .ok|apply And.intro|intro _|(refine gc (fun h=>?_) (fun h=>?_)<;>(have h':=h;(try simp at h');first|done|simp[h,h']|simp[Tm.c,aS]))))) | skip
       all_goals first | (refine aP hn2 ?_; simp; (repeat' (first | contradiction | exact .of (by kernel_rfl) | refine And.intro ?_ ?_ | intro _ | (refine aI (fun h=>?_) (fun h=>?_) <;> (have h':=h; (try simp at h'); first | done | simp [h] | simp [Tm.c,aS]))))) | skip
       all_goals first | done | (refine aA (hsame y n [] []) (by simp [Tm.a,Tm.c,aS]) ?_; simp; (repeat' (first|contradiction|exact .ok|apply And.intro|intro _|(refine gc (fun h=>?_) (fun h=>?_)<;>(have h':=h;(try simp at h');first|done|simp[h,h']|simp))))) | skip
       all_goals first | done | (simp_all; done) | (simp_all; omega)
      by_cases h41:o=41
      ·subst h41
       simp
       (repeat' (first|contradiction|exact .ok|apply And.intro|intro _|(refine gc (fun h=>?_) (fun h=>?_)<;>(have h':=h;(try simp at h');first|done|simp[h,h']|simp[Tm.c,aS]))))
       all_goals first | done | (refine aA (hsame y 0 t q) (by simp [Tm.a,Tm.c,aS]) ?_; simp; (repeat' (first|contradiction|exact .ok|apply And.intro|intro _|(refine gc (fun h=>?_) (fun h=>?_)<;>(have h':=h;(try simp at h');first|done|simp[h,h']|simp))))) | skip
       all_goals first | done | (simp_all; done) | (simp_all; omega)
      simp [h1,h2,h3,h4,h40,h41]
      (repeat' (first|contradiction|exact .ok|apply And.intro|intro _|(refine gc (fun h=>?_) (fun h=>?_)<;>(have h':=h;(try simp at h');first|done|simp[h,h',h1,h2,h3,h4,h40,h41,Tm.c,aS]|simp[h1,h2,h3,h4,h40,h41,Tm.c,aS]))))
      all_goals first | done | (refine aA (hsame y n t q) (by simp [Tm.a,Tm.c,aS]) ?_; simp; (repeat' (first|contradiction|exact .ok|apply And.intro|intro _|(refine gc (fun h=>?_) (fun h=>?_)<;>(have h':=h;(try simp at h');first|done|simp[h,h']|simp))))) | skip
      all_goals first | done | (simp_all; done) | (simp_all; omega)
   ·obtain rfl:C=false:=by simpa using h
    simp
    all_goals exact gz
def asZ (n:List UInt8):List Tz:=if n=[] then [] else [wd rV,wd n]
def aFY (n:List UInt8):Prop:=n=[]∨bP jZ n=true
def DB (k:Nat):List UInt8:=if k=0 then (joiW[6]?).getD [] else (joiW[k - 1]?).getD []
def NI:List (List Tz)→List Tz
 | []=>[]
 | w::ws=>sg bQ::(w++NI ws)
theorem JM:∀ (w:List Tz) (ws:List (List Tz)),rN (w::ws)=w++NI ws
 | w,[]=>by simp [rN,NI]
 | w,v::ws=>by rw [qX (by simp),JM v ws]; rfl
inductive WI:It→List Tz→Prop
 | mk {t:Tm} {r:Nat} {w:List Tz} {n:List UInt8} (ht:WT t r w) (hn:aFY n):WI ⟨t,n⟩ (w++asZ n)
inductive WIs:List It→List (List Tz)→Prop
 | nil:WIs [] []
 | cons {i:It} {w:List Tz} {is:List It} {ws:List (List Tz)} (h:WI i w) (hs:WIs is ws):WIs (i::is) (w::ws)
inductive aAo (w:List UInt8):List Tm→List Tz→Prop
 | no:aAo w [] []
 | yes {t:Tm} {r:Nat} {v:List Tz} (ht:WT t r v):aAo w [t] (wd w::v)
inductive WGr:List Tm→List Tz→Prop
 | no:WGr [] []
 | yes {t:Tm} {r:Nat} {w:List Tz} {ks:List Tm} {ws:List (List Tz)} (ht:WT t r w) (hk:WTs ks ws):WGr (t::ks) (wd iO::wd RJ::(w++NI ws))
inductive WSt:Bool→List It→List Tz→Prop
 | star:WSt true [] [sg fV]
 | items {i:It} {w:List Tz} {is:List It} {ws:List (List Tz)} (h:WI i w) (hs:WIs is ws):WSt false (i::is) (w++NI ws)
def VT (b:Bool) (w:List UInt8):List Tz:=if b=true then [wd w] else []
mutual
/-- The tokens of a statement. -/
inductive WSm:Sm→List Tz→Prop
 | one {x:Sm} {w:List Tz} (h:WSe x w):WSm x w
 | set {i:Nat} {a:Bool} {x y:Sm} {wx wy:List Tz} (hi:i<3) (hx:WSm x wx) (hy:WCo y wy):WSm (uI i a x y) (wx++(wd ((setW[i]?).getD [])::(VT a gM++wy)))
/-- A selection. -/
inductive WSe:Sm→List Tz→Prop
 | sel {d s:Bool} {is:List It} {wi:List Tz} {ft:List UInt8} {fq:List Sm} {fn:List UInt8} {ws:List Tz} {js:List Jo} {wj:List Tz} {w:List Tm} {ww:List Tz} {g:List Tm} {wg:List Tz} {h:List Tm} {wh:List Tz}
   (hi:WSt s is wi) (hs:WSo ft fq fn ws) (hj:WJs js wj) (hw:aAo wWhere w ww) (hg:WGr g wg) (hh:aAo wHaving h wh) :
   WSe (.mk 1 false d s is ft fq fn js w g h []) (wd wSelect::(VT d aO++(wi++(wd wFrom::(ws++(wj++(ww++(wg++wh))))))))
/-- Behind the word of a set: a selection, or a statement in parentheses. -/
inductive WCo:Sm→List Tz→Prop
 | sel {x:Sm} {w:List Tz} (h:WSe x w):WCo x w
 | par {x:Sm} {w:List Tz} (h:WSm x w):WCo x (sg bF::(w++[sg aY]))
inductive WSo:List UInt8→List Sm→List UInt8→List Tz→Prop
 | tab {t n:List UInt8} (ht:bP jZ t=true) (hn:aFY n):WSo t [] n (wd t::asZ n)
 | sub {x:Sm} {w:List Tz} {n:List UInt8} (h:WSm x w) (hn:bP jZ n=true):WSo [] [x] n (sg bF::(w++[sg aY,wd rV,wd n]))
inductive WJs:List Jo→List Tz→Prop
 | nil:WJs [] []
 | cross {t:List UInt8} {q:List Sm} {n:List UInt8} {w:List Tz} {js:List Jo} {wj:List Tz} (hs:WSo t q n w) (hj:WJs js wj):WJs (.mk 0 t q n []::js) (wd (DB 0)::wd wJoin::(w++wj))
 | on {k:Nat} {t:List UInt8} {q:List Sm} {n:List UInt8} {w:List Tz} {c:Tm} {r:Nat} {wc:List Tz} {js:List Jo} {wj:List Tz} (hk:1≤k∧k≤6) (hs:WSo t q n w) (hc:WT c r wc) (hj:WJs js wj) :
   WJs (.mk (k:Nat) t q n [c]::js) (wd (DB k)::wd wJoin::(w++(wd yG::(wc++wj))))
end
def Ban (ws:List (List UInt8)) (l:List Tk):Prop:=∀ w∈ws,isW w l=false
theorem Ban.sub {a b:List (List UInt8)} {l:List Tk} (h:Ban a l) (hs:∀ w∈b,w∈a):Ban b l:=fun w hw=>h w (hs w hw)
theorem yM {ws:List (List UInt8)} {tk:Tk} {x:List UInt8} (h:tk.er=wd x∨tk.er=sg x) (hx:x ∉ ws) (r:List Tk):Ban ws (tk::r):=fun w hw=>by
 rw [eY h]
 cases e:x==w with
 | false=>rfl
 | true=>rw [beq_iff_eq] at e; exact absurd (e ▸ hw) hx
def Beg (xs:List (List UInt8)) (w:List Tz):Prop:=w=[]∨∃ x∈xs,∃ w',w=wd x::w'∨w=sg x::w'
theorem Beg.app {xs ys:List (List UInt8)} {a b:List Tz} (ha:Beg xs a) (hb:Beg ys b):Beg (xs++ys) (a++b):=by
 rcases ha with rfl | ⟨x,hx,w',e⟩
 ·rcases hb with rfl | ⟨x,hx,w',e⟩
  ·exact .inl rfl
  ·exact .inr ⟨x,List.mem_append_right _ hx,w',e⟩
 ·refine .inr ⟨x,List.mem_append_left _ hx,w'++b,?_⟩
  rcases e with rfl | rfl
  ·exact .inl rfl
  ·exact .inr rfl
theorem Beg.ban {xs ws:List (List UInt8)} {w:List Tz} (h:Beg xs w) (hd:∀ x∈xs,x ∉ ws) {l rest:List Tk} (hl:er l=w) (hr:Ban ws rest):Ban ws (l++rest):=by
 rcases h with rfl | ⟨x,hx,w',e⟩
 ·rw [eO hl]; exact hr
 ·rcases e with rfl | rfl
  ·obtain ⟨tk,l2,rfl,h1,_⟩:=aW hl
   exact yM (.inl h1) (hd x hx) _
  ·obtain ⟨tk,l2,rfl,h1,_⟩:=aW hl
   exact yM (.inr h1) (hd x hx) _
theorem aLr (n:List UInt8):Beg [rV] (asZ n):=by
 unfold asZ
 split
 ·exact .inl rfl
 ·exact .inr ⟨rV,by simp,_,.inl rfl⟩
theorem aBB {w:List UInt8} {ts:List Tm} {v:List Tz} (h:aAo w ts v):Beg [w] v:=by
 cases h with
 | no=>exact .inl rfl
 | yes=>exact .inr ⟨w,by simp,_,.inl rfl⟩
theorem aLs {ts:List Tm} {v:List Tz} (h:WGr ts v):Beg [iO] v:=by
 cases h with
 | no=>exact .inl rfl
 | yes=>exact .inr ⟨iO,by simp,_,.inl rfl⟩
theorem FS (ws:List (List Tz)):Beg [bQ] (NI ws):=by
 cases ws with
 | nil=>exact .inl rfl
 | cons=>exact .inr ⟨bQ,by simp,_,.inr rfl⟩
theorem VU:∀ k:Fin 7,DB k.1∈joiW:=by decide
theorem aAp {js:List Jo} {v:List Tz} (h:WJs js v):Beg joiW v:=by
 cases h with
 | nil=>exact .inl rfl
 | cross=>exact .inr ⟨_,VU ⟨0,by omega⟩,_,.inl rfl⟩
 | on hk=>exact .inr ⟨_,VU ⟨_,by omega⟩,_,.inl rfl⟩
def aIC (tm:List Tk→cY Tm) (B:Nat):Prop:=∀ {t:Tm} {r:Nat} {w:List Tz},WT t r w→∀ l rest,er l=w→(l++rest).length≤B→Stp 0 rest→tm (l++rest)=.ok (t,rest)
theorem aFZ {N B:Nat} (h:9*B+8≤N):aIC (bA N 0) B:=fun ht l rest hl hB hs =>
 ((back ht).rd l rest hl 0 (Nat.zero_le _) hs).at (by omega) (by unfold vG; omega)
theorem JN {n:List UInt8} (hn:bP jZ n=true) {tk:Tk} (h:tk.er=wd n) (r:List Tk):gJ (tk::r)=.ok (n,r):=by
 unfold Tk.er wd at h
 simp only [Prod.mk.injEq] at h
 obtain ⟨e1,e2,_⟩:=h
 unfold gJ
 simp only
 rw [e2,if_pos ⟨e1,hn⟩]
theorem aBC {n:List UInt8} (hn:aFY n) {l rest:List Tk} (hl:er l=asZ n) (hs:Ban [rV] rest):ZY (l++rest)=.ok (n,rest):=by
 unfold ZY
 rcases hn with rfl | hn
 ·rw [eO hl,List.nil_append,hs rV (by simp)]
  rfl
 ·unfold asZ at hl
  rw [if_neg (by rintro rfl; revert hn; decide)] at hl
  obtain ⟨t1,l1,rfl,h1,hl⟩:=aW hl
  obtain ⟨t2,l2,rfl,h2,hl⟩:=aW hl
  obtain rfl:=eO hl
  rw [List.cons_append,if_pos (jI rV (.inl h1) _ (by decide))]
  exact JN hn h2 rest
section
variable {tm:List Tk→cY Tm} {B:Nat} (hT:aIC tm B)
include hT
theorem NJ {i:It} {w:List Tz} (h:WI i w) {l rest:List Tk} (hl:er l=w) (hB:(l++rest).length≤B) (hs:Ban (rV::lA 0) rest):pV tm (l++rest)=.ok (i,rest):=by
 cases h with
 | mk ht hn =>
   obtain ⟨l1,l2,rfl,h1,h2⟩:=eI hl
   rw [List.append_assoc] at hB ⊢
   unfold pV
   rw [hT ht l1 (l2++rest) h1 hB (Beg.ban (aLr _) (by decide) h2 (hs.sub (by intro w hw; simp [hw])))]
   show aR (ZY (l2++rest)) _=_
   rw [aBC hn h2 (hs.sub (by simp))]
   rfl
theorem JO:∀ {is:List It} {ws:List (List Tz)},WIs is ws→∀ {l rest:List Tk} (is0:List It) (k:Nat),er l=NI ws→(l++rest).length≤B→(l++rest).length≤k→Ban (bQ::rV::lA 0) rest →
  gY tm k is0 (l++rest)=.ok (is0++is,rest)
 | _,_,.nil,l,rest,is0,k,hl,hB,hk,hs=>by
   rw [eO hl,List.nil_append,List.append_nil]
   cases k with
   | zero=>rfl
   | succ k=>rw [gY,hs bQ (by simp)]; rfl
 | _,_,.cons (i:=i) (is:=is) (ws:=ws) h hi,l,rest,is0,k,hl,hB,hk,hs=>by
   obtain ⟨tk,l1,rfl,h1,hl⟩:=aW hl
   obtain ⟨l2,l3,rfl,h2,h3⟩:=eI hl
   rw [List.cons_append,List.append_assoc] at hB hk ⊢
   simp only [List.length_cons] at hB hk
   obtain ⟨k,rfl⟩:∃ m,k=m+1:=⟨k - 1,by omega⟩
   rw [gY,if_pos (jI bQ (.inr h1) _ (by decide)),List.tail_cons,NJ hT h h2 (by omega) (Beg.ban (FS ws) (by decide) h3 (hs.sub (by intro w hw; simp [hw])))]
   show gY tm k (is0++[i]) (l3++rest)=_
   have hle:(l3++rest).length≤(l2++(l3++rest)).length:=by simp
   rw [JO hi (is0++[i]) k h3 (by omega) (by omega) hs,List.append_assoc]
   rfl
theorem VV:∀ {ks:List Tm} {ws:List (List Tz)},WTs ks ws→∀ {l rest:List Tk} (ks0:List Tm) (k:Nat),er l=NI ws→(l++rest).length≤B→(l++rest).length≤k→Ban (bQ::lA 0) rest →
  fA tm k ks0 (l++rest)=.ok (ks0++ks,rest)
 | _,_,.nil,l,rest,ks0,k,hl,hB,hk,hs=>by
   rw [eO hl,List.nil_append,List.append_nil]
   cases k with
   | zero=>rfl
   | succ k=>rw [fA,hs bQ (by simp)]; rfl
 | _,_,.cons (a:=a) (ks:=ks) (ws:=ws) h hi,l,rest,ks0,k,hl,hB,hk,hs=>by
   obtain ⟨tk,l1,rfl,h1,hl⟩:=aW hl
   obtain ⟨l2,l3,rfl,h2,h3⟩:=eI hl
   rw [List.cons_append,List.append_assoc] at hB hk ⊢
   simp only [List.length_cons] at hB hk
   obtain ⟨k,rfl⟩:∃ m,k=m+1:=⟨k - 1,by omega⟩
   rw [fA,if_pos (jI bQ (.inr h1) _ (by decide)),List.tail_cons,hT h l2 (l3++rest) h2 (by omega) (Beg.ban (FS ws) (by decide) h3 (hs.sub (by intro w hw; simp [hw])))]
   show fA tm k (ks0++[a]) (l3++rest)=_
   have hle:(l3++rest).length≤(l2++(l3++rest)).length:=by simp
   rw [VV hi (ks0++[a]) k h3 (by omega) (by omega) hs,List.append_assoc]
   rfl
theorem VW {w:List UInt8} {ts:List Tm} {v:List Tz} (h:aAo w ts v) {l rest:List Tk} (hl:er l=v) (hB:(l++rest).length≤B) (hs:Ban (w::lA 0) rest):vK tm w (l++rest)=.ok (ts,rest):=by
 unfold vK
 cases h with
 | no=>rw [eO hl,List.nil_append,hs w (by simp)]; rfl
 | yes ht =>
   obtain ⟨tk,l1,rfl,h1,h2⟩:=aW hl
   rw [List.cons_append] at hB ⊢
   simp only [List.length_cons] at hB
   rw [if_pos (jI w (.inl h1) _ (by simp)),List.tail_cons,hT ht l1 rest h2 (by omega) (hs.sub (by intro w hw; simp [hw]))]
   rfl
theorem aAq {ts:List Tm} {v:List Tz} (h:WGr ts v) {l rest:List Tk} (hl:er l=v) (hB:(l++rest).length≤B) (hs:Ban (iO::bQ::lA 0) rest):mN tm (l++rest)=.ok (ts,rest):=by
 unfold mN
 cases h with
 | no=>rw [eO hl,List.nil_append,hs iO (by simp)]; rfl
 | yes ht hk =>
   rename_i t r w ks ws
   obtain ⟨t1,l1,rfl,h1,hl⟩:=aW hl
   obtain ⟨t2,l2,rfl,h2,hl⟩:=aW hl
   obtain ⟨l3,l4,rfl,h3,h4⟩:=eI hl
   rw [List.cons_append,List.cons_append,List.append_assoc] at hB ⊢
   simp only [List.length_cons] at hB
   have hle:(l4++rest).length≤(l3++(l4++rest)).length:=by simp
   rw [if_pos (jI iO (.inl h1) _ (by decide)),List.tail_cons,eL (jI RJ (.inl h2) _ (by decide))]
   show aR (tm (l3++(l4++rest))) _=_
   rw [hT ht l3 (l4++rest) h3 (by omega) (Beg.ban (FS ws) (by decide) h4 (hs.sub (by intro w hw; simp [hw])))]
   show fA tm (l4++rest).length [t] (l4++rest)=_
   rw [VV hT hk [t] _ h4 (by omega) (Nat.le_refl _) (hs.sub (by intro w hw; simp only [List.mem_cons] at hw ⊢; exact .inr hw))]
   rfl
omit hT in
theorem aID {i:It} {w:List Tz} (h:WI i w):HdOk 0 w:=by
 cases h with
 | mk ht hn =>
   obtain ⟨z,w',e,hz⟩:=(back ht).hd
   exact HW ⟨z,w',e,FH hz (by omega)⟩
theorem aDH {s:Bool} {is:List It} {w:List Tz} (h:WSt s is w) {l rest:List Tk} (hl:er l=w) (hB:(l++rest).length≤B) (hs:Ban (bQ::rV::lA 0) rest) :
  rA tm (l++rest)=.ok (is,rest)∧isW fV (l++rest)=s∧isW aO (l++rest)=false:=by
 cases h with
 | star =>
   obtain ⟨t1,l1,rfl,h1,hl⟩:=aW hl
   obtain rfl:=eO hl
   have e:isW fV (t1::rest)=true:=jI fV (.inr h1) _ (by decide)
   refine ⟨?_,e,?_⟩
   ·unfold rA
    rw [List.cons_append,List.nil_append,if_pos e]
    rfl
   ·exact (eY (.inr h1) _ _).trans (by decide)
 | items h hi =>
   rename_i i w is ws
   obtain ⟨l1,l2,rfl,h1,h2⟩:=eI hl
   rw [List.append_assoc] at hB ⊢
   obtain ⟨e1,e2,_⟩:=(aID h).isW h1 (l2++rest)
   refine ⟨?_,e1,e2⟩
   have hle:(l2++rest).length≤(l1++(l2++rest)).length:=by simp
   unfold rA
   rw [e1,NJ hT h h1 hB (Beg.ban (FS ws) (by decide) h2 (hs.sub (by intro w hw; simp only [List.mem_cons] at hw ⊢; exact .inr hw)))]
   show gY tm (l2++rest).length [i] (l2++rest)=_
   rw [JO hT hi [i] _ h2 (by omega) (Nat.le_refl _) hs]
   rfl
end
end Go.Proofs.Tryz
