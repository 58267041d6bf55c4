import Derived.Test.YthpmjipkofbeiaaGreatDoorWrv
import Derived.Test.YthpmjipkofbeiaaGreatDoorUUna
set_option linter.all false
namespace Go.Proofs.Tryz
open Go.Ab
set_option maxRecDepth 100000
set_option maxHeartbeats 4000000
section
variable (ws:List (List UInt8))
def aIs (o:Int) (k:Nat):Bool :=
 if o=11∨o=13∨o=21∨o=24∨o=25 then k==1
 else if o=26 then k==3
 else if o=28 then decide (2≤k)
 else decide (6≤o)&&(decide (o≤28)&&k==2)
def okN (o y n:Int) (t q:List UInt8) (k:Nat):Bool :=
 if o=1 then decide (1≤y)&&(decide (y≤3)&&(k==0&&(n==0&&(t==[]&&q==[]))))
 else if o=2 then (V.mk 1 n []).valid&&(k==0&&(y==0&&(t==[]&&q==[])))
 else if o=3 then (n==0||n==1)&&(k==0&&(y==0&&(t==[]&&q==[])))
 else if o=4 then (V.mk 3 0 t).valid&&(k==0&&(y==0&&(n==0&&q==[])))
 else if o=40 then bP ws t&&((q==[]||bP ws q)&&(k==0&&(y==0&&n==0)))
 else if o=41 then decide (1≤n)&&(decide (n≤6)&&((if n=1 then k==0 else k==1)&&(y==0&&(t==[]&&q==[]))))
 else aIs o k&&(y==0&&(n==0&&(t==[]&&q==[])))
mutual
def rgT:Tm→Bool
 | .mk o y n t q ks=>okN ws o y n t q ks.length&&mD ks
def mD:List Tm→Bool
 | []=>true
 | e::es=>rgT e&&mD es
end
def nmO (s:List UInt8):Bool:=s==[]||bP ws s
def rgI (i:It):Bool:=rgT ws i.t&&nmO ws i.n
mutual
def rgS:Sm→Bool
 | .mk f a d s is ft fq fn js w g h ks =>
   if f=1 then !a&&(ks.length==0&&(s==(is.length==0)&&(decide (w.length≤1)&&(decide (h.length≤1) &&
    ((if fq.length=0 then bP ws ft&&nmO ws fn else fq.length==1&&(ft==[]&&(bP ws fn&&yH fq))) &&
    (is.all (rgI ws)&&(LN js&&(mD ws w&&(mD ws g&&mD ws h)))))))))
   else if f=2∨f=3∨f=4 then ks.length==2&&(yH ks&&(!d&&(!s&&(is.length==0&&(ft==[]&&(fq.length==0&&(fn==[]&&(js.length==0&&(w.length==0&&(g.length==0&&h.length==0))))))))))
   else false
def rgJ:Jo→Bool
 | .mk k t q n o=>decide (0≤k)&&(decide (k≤6)&&(o.length==(if k=0 then 0 else 1)&&(mD ws o &&
   (if q.length=0 then bP ws t&&nmO ws n else q.length==1&&(t==[]&&(bP ws n&&yH q))))))
def yH:List Sm→Bool
 | []=>true
 | e::es=>rgS e&&yH es
def LN:List Jo→Bool
 | []=>true
 | e::es=>rgJ e&&LN es
end
end
theorem wf2 {a b:Tm} (h:RD [a,b]):qM a∧qM b:=by
 cases h with
 | cons ha hk=>cases hk with
   | cons hb _=>exact ⟨ha,hb⟩
theorem wf1 {a:Tm} (h:RD [a]):qM a:=by
 cases h with
 | cons ha hk=>exact ha
theorem aLb {α:Type} {l:List α} (h:l.length=1):∃ a,l=[a]:=List.length_eq_one_iff.1 h
theorem aLc {α:Type}:∀ {l:List α},l.length=2→∃ a b,l=[a,b]
 | [a,b],_=>⟨a,b,rfl⟩
 | [],h=>by simp at h
 | [a],h=>by simp at h
 | a::b::c::l,h=>by simp at h
theorem aOz {α:Type}:∀ {l:List α},l.length=3→∃ a b c,l=[a,b,c]
 | [a,b,c],_=>⟨a,b,c,rfl⟩
 | [],h=>by simp at h
 | [a],h=>by simp at h
 | [a,b],h=>by simp at h
 | a::b::c::d::l,h=>by simp at h
theorem aDz {o:Int} {k:Nat} (h:aIs o k=true):((o=11∨o=13∨o=21∨o=24∨o=25)∧k=1)∨(o=26∧k=3)∨(o=28∧2≤k) ∨
  ((o=6∨o=7∨o=8∨o=9∨o=10∨o=12∨o=14∨o=15∨o=16∨o=17∨o=18∨o=19∨o=20∨o=22∨o=23∨o=27)∧k=2):=by
 unfold aIs at h
 split at h
 ·rename_i h1; exact .inl ⟨h1,by simpa using h⟩
 ·split at h
  ·rename_i h1; exact .inr (.inl ⟨h1,by simpa using h⟩)
  ·split at h
   ·rename_i h1; exact .inr (.inr (.inl ⟨h1,by simpa using h⟩))
   ·simp only [Bool.and_eq_true,decide_eq_true_eq,beq_iff_eq] at h
    exact .inr (.inr (.inr ⟨by omega,h.2.2⟩))
theorem yI {i:Nat} {o:Int} {a b:Tm} (ho:o=14+(i:Int)) (hi:i<7) (ha:qM a) (hb:qM b):qM (.mk o 0 0 [] [] [a,b]):=by
 subst ho
 exact .cmp hi ha hb
theorem aLd {o:Int} {ks:List Tm} (h:aIs o ks.length=true) (hk:RD ks):qM (.mk o 0 0 [] [] ks):=by
 rcases aDz h with ⟨ho,h1⟩ | ⟨rfl,h1⟩ | ⟨rfl,h1⟩ | ⟨ho,h1⟩
 ·obtain ⟨a,rfl⟩:=aLb h1
  have ha:=wf1 hk
  rcases ho with rfl | rfl | rfl | rfl | rfl
  ·exact .neg ha
  ·exact .len ha
  ·exact .isNull ha
  ·exact .no ha
  ·exact .isTrue ha
 ·obtain ⟨a,b,c,rfl⟩:=aOz h1
  cases hk with
  | cons ha hk=>obtain ⟨hb,hc⟩:=wf2 hk; exact .case ha hb hc
 ·cases ks with
  | nil=>simp at h1
  | cons a ks =>
    cases hk with
    | cons ha hk=>exact .isIn ha hk (by rintro rfl; simp at h1)
 ·obtain ⟨a,b,rfl⟩:=aLc h1
  obtain ⟨ha,hb⟩:=wf2 hk
  rcases ho with rfl | rfl | rfl | rfl | rfl | rfl | rfl | rfl | rfl | rfl | rfl | rfl | rfl | rfl | rfl | rfl
  ·exact .chn (r:=4) (i:=0) (by omega) (by decide) ha hb
  ·exact .chn (r:=4) (i:=1) (by omega) (by decide) ha hb
  ·exact .chn (r:=5) (i:=0) (by omega) (by decide) ha hb
  ·exact .chn (r:=5) (i:=1) (by omega) (by decide) ha hb
  ·exact .chn (r:=5) (i:=2) (by omega) (by decide) ha hb
  ·exact .chn (r:=4) (i:=2) (by omega) (by decide) ha hb
  ·exact yI (i:=0) (by decide) (by decide) ha hb
  ·exact yI (i:=1) (by decide) (by decide) ha hb
  ·exact yI (i:=2) (by decide) (by decide) ha hb
  ·exact yI (i:=3) (by decide) (by decide) ha hb
  ·exact yI (i:=4) (by decide) (by decide) ha hb
  ·exact yI (i:=5) (by decide) (by decide) ha hb
  ·exact yI (i:=6) (by decide) (by decide) ha hb
  ·exact .chn (r:=1) (i:=0) (by omega) (by decide) ha hb
  ·exact .chn (r:=0) (i:=0) (by omega) (by decide) ha hb
  ·exact .coal ha hb
mutual
theorem VM:∀ t:Tm,rgT jZ t=true→qM t
 | .mk o y n t q ks,h=>by
   rw [rgT,Bool.and_eq_true] at h
   obtain ⟨h1,h2⟩:=h
   have hk:=aAj ks h2
   unfold okN at h1
   split at h1
   ·rename_i e; subst e
    simp only [Bool.and_eq_true,decide_eq_true_eq,beq_iff_eq] at h1
    obtain ⟨a,b,c,rfl,rfl,rfl⟩:=h1
    obtain rfl:=List.length_eq_zero_iff.1 c
    exact .null ⟨a,b⟩
   split at h1
   ·rename_i e; subst e
    simp only [Bool.and_eq_true,beq_iff_eq] at h1
    obtain ⟨a,c,rfl,rfl,rfl⟩:=h1
    obtain rfl:=List.length_eq_zero_iff.1 c
    have:-1000000000000≤n∧n≤1000000000000:=by
     unfold V.valid at a
     simp at a
     omega
    exact .int this.1 this.2
   split at h1
   ·rename_i e; subst e
    simp only [Bool.and_eq_true,Bool.or_eq_true,beq_iff_eq] at h1
    obtain ⟨a,c,rfl,rfl,rfl⟩:=h1
    obtain rfl:=List.length_eq_zero_iff.1 c
    rcases a with rfl | rfl
    ·exact .fls
    ·exact .tru
   split at h1
   ·rename_i e; subst e
    simp only [Bool.and_eq_true,beq_iff_eq] at h1
    obtain ⟨a,c,rfl,rfl,rfl⟩:=h1
    obtain rfl:=List.length_eq_zero_iff.1 c
    exact .text (by unfold V.valid at a; simpa using a)
   split at h1
   ·rename_i e; subst e
    simp only [Bool.and_eq_true,Bool.or_eq_true,beq_iff_eq] at h1
    obtain ⟨a,b,c,rfl,rfl⟩:=h1
    obtain rfl:=List.length_eq_zero_iff.1 c
    rcases b with rfl | b
    ·exact .name a
    ·exact .qual a b
   split at h1
   ·rename_i e; subst e
    simp only [Bool.and_eq_true,decide_eq_true_eq,beq_iff_eq] at h1
    obtain ⟨a,b,c,rfl,rfl,rfl⟩:=h1
    split at c
    ·rename_i e; subst e
     obtain rfl:=List.length_eq_zero_iff.1 (by simpa using c)
     exact .rows
    ·obtain ⟨k,rfl⟩:=aLb (by simpa using c)
     exact .agg ⟨by omega,b⟩ (wf1 hk)
   ·simp only [Bool.and_eq_true,beq_iff_eq] at h1
    obtain ⟨a,rfl,rfl,rfl,rfl⟩:=h1
    exact aLd a hk
theorem aAj:∀ l:List Tm,mD jZ l=true→RD l
 | [],_=>.nil
 | e::es,h=>by
   rw [mD,Bool.and_eq_true] at h
   exact .cons (VM e h.1) (aAj es h.2)
end
mutual
def Tm.wgt:Tm→Nat
 | .mk _ _ _ t q ks=>60+(t.length+(q.length+cH ks))
def cH:List Tm→Nat
 | []=>0
 | k::ks=>k.wgt+cH ks
end
def jF:List (List UInt8)→Nat
 | []=>0
 | s::r=>s.length+jF r
theorem aBW (W:List (List UInt8)):(qL W [] 0).length+((qL W [] 1).length+(qL W [] 2).length)≤jF W:=by
 match W with
 | []=>simp [qL,jF]
 | [a]=>simp [qL,jF]
 | [a,b]=>simp [qL,jF]
 | a::b::c::r=>simp [qL,jF]
theorem nH:∀ W:List (List UInt8),(eH W).length≤jF W+2*W.length
 | []=>by simp [eH,jF]
 | [a]=>by simp [eH,jF]
 | a::b::r=>by
   have:=nH (b::r)
   rw [show eH (a::b::r)=a++44::32::eH (b::r) from rfl,jF]
   simp only [List.length_append,List.length_cons] at this ⊢
   omega
theorem aDP (W:List (List UInt8)):(qL W [] 0).length+(eH (W.drop 1)).length≤jF W+2*W.length:=by
 cases W with
 | nil=>simp [qL,eH,jF]
 | cons a r =>
   have:=nH r
   simp only [qL,List.drop_succ_cons,List.drop_zero,List.getElem?_cons_zero,Option.getD_some,jF,List.length_cons]
   omega
theorem aBX (want r:Nat) (s:List UInt8):(yT want r s).length≤s.length+2∧s.length≤(yT want r s).length:=by
 unfold yT
 split
 ·simp; omega
 ·simp
theorem aJe {c:Prop} [Decidable c] {a b:List UInt8} {n:Nat} (h1:a.length≤n) (h2:b.length≤n):(if c then a else b).length≤n:=by split <;> assumption
theorem aBY {o:Int} {x:List UInt8×Nat×Nat×Nat} (h:sgB o=some x):x.1.length≤4:=by
 unfold sgB at h
 repeat' split at h
 all_goals first | (cases h; decide) | (cases h; rename_i hc; have:o=14∨o=15∨o=16∨o=17∨o=18∨o=19∨o=20:=(by omega); rcases this with rfl | rfl | rfl | rfl | rfl | rfl | rfl <;> decide) | cases h
theorem aJf {n:Int} (h0:-9223372036854775808≤n) (h1:n≤9223372036854775807):(Lib.itoa n).length≤21:=by
 have key:∀ u:Nat,u≤9223372036854775808→Lib.nDigits u≤20:=fun u hu=>by
  rcases Nat.eq_zero_or_pos u with h | h
  ·subst h; rw [Lib.nDigits_small (by decide)]; decide
  ·have:=Lib.numDigits_eq u h (by omega)
   split at this <;> omega
 unfold Lib.itoa
 split
 ·have:=key n.natAbs (by omega)
  rw [List.length_cons,Lib.decDigits_length]; omega
 ·have:=key n.toNat (by omega)
  rw [Lib.decDigits_length]; omega
theorem aGG (y:Int):(TR y).length≤10:=by
 unfold TR
 repeat' split
 all_goals decide
theorem aGH (n:Int):(LQ n).length≤20:=by
 unfold LQ
 repeat' split
 all_goals decide
theorem aJg {o y n:Int} {t q:List UInt8} {ks:List Tm} {W:List (List UInt8)} (h0:-9223372036854775808≤n) (h1:n≤9223372036854775807) :
  (wrO o y n t q ks W).length≤50+(t.length+(q.length+(jF W+2*W.length))):=by
 have a1:=aBW W
 have a2:=nH W
 have a3:=aDP W
 have p:=fun w r s=>(aBX w r s).1
 unfold wrO
 split
 ·rename_i x hx
  have:=aBY hx
  have p1:=p x.2.2.1 (qL (ks.map tA) 0 0) (qL W [] 0)
  have p2:=p x.2.2.2 (qL (ks.map tA) 0 1) (qL W [] 1)
  simp only [List.length_append,List.length_cons]
  omega
 ·have p0:=fun w=>p w (qL (ks.map tA) 0 0) (qL W [] 0)
  have p2:=p0 2
  have p4:=p0 4
  have p6:=p0 6
  have ht:=aGG y
  have ha:=aGH n
  have hi:=aJf h0 h1
  have k1:wNull.length=4:=rfl
  have k2:wNot.length=3:=rfl
  have k3:wIs.length=2:=rfl
  have k4:wTrue.length=4:=rfl
  have k5:wIn.length=2:=rfl
  have k6:wLength.length=6:=rfl
  have k7:wCoalesce.length=8:=rfl
  have k8:wCase.length=4:=rfl
  have k9:wWhen.length=4:=rfl
  have k10:wThen.length=4:=rfl
  have k11:wElse.length=4:=rfl
  have k12:wEnd.length=3:=rfl
  have k13:wCount.length=5:=rfl
  have k14:wFalse.length=5:=rfl
  repeat' (with_reducible refine aJe ?_ ?_)
  all_goals (first | omega | (simp only [List.length_append,List.length_cons,List.length_nil]; omega))
mutual
theorem QW:∀ (t:Tm) (ws:List (List UInt8)),rgT ws t=true→(wr t).length+4≤t.wgt
 | .mk o y n t q ks,ws,h=>by
   rw [rgT,Bool.and_eq_true] at h
   have hk:=FX ks ws h.2
   have hl:(qD ks).length=ks.length:=by rw [pD,List.length_map]
   have hn:-9223372036854775808≤n∧n≤9223372036854775807:=by
    have h:=h.1
    unfold okN at h
    repeat' split at h
    all_goals (simp only [Bool.and_eq_true,decide_eq_true_eq,beq_iff_eq,Bool.or_eq_true] at h)
    all_goals first | omega | skip
    rcases jE h.1 with hv | ⟨_,_,a,b⟩ | hv | hv | ⟨hv,_⟩
    ·cases hv
    ·simp only at a b; omega
    ·cases hv
    ·cases hv
    ·cases hv
   have:=aJg (o:=o) (y:=y) (t:=t) (q:=q) (ks:=ks) (W:=qD ks) hn.1 hn.2
   rw [wr,Tm.wgt]
   omega
theorem FX:∀ (l:List Tm) (ws:List (List UInt8)),mD ws l=true→jF (qD l)+4*l.length≤cH l
 | [],_,_=>by simp [qD,jF,cH]
 | k::ks,ws,h=>by
   rw [mD,Bool.and_eq_true] at h
   have h1:=QW k ws h.1
   have h2:=FX ks ws h.2
   rw [qD,jF,cH,List.length_cons]
   omega
end
theorem yQ:∀ {l:List Tm} {k:Tm},k∈l→k.wgt≤cH l
 | x::l,k,h=>by
   rw [cH]
   rcases List.mem_cons.1 h with rfl | h
   ·omega
   ·have:=yQ h; omega
end Go.Proofs.Tryz
namespace Go.Proofs.Tryz
open Go.Ab Go.RowKit
set_option maxRecDepth 100000
set_option maxHeartbeats 4000000
def P4 (w:World):Addr:=⟨w.heap.size,0,none⟩
def P5 (w:World):Addr:=⟨w.heap.size+1,0,none⟩
def W1 (w:World):World:=(w.alloc (.cells #[.int .i64 0] 3)).alloc (.cells #[.int .i64 0] 32)
def dcl (w:World):Deferred:={ target:=.fn (.func 59) #[.pointer (some (P4 w)),.pointer (some (P5 w))],args:=#[] }
theorem FN (w:World):(W1 w).heap=(w.heap.push (.cells #[.int .i64 0] 3)).push (.cells #[.int .i64 0] 32):=rfl
theorem wT (w:World):(W1 w).heap.size=w.heap.size+2:=by rw [FN,Array.size_push,Array.size_push]
theorem aAh (w:World) (k:Nat) (h:k<w.heap.size):(W1 w).heap[k]?=w.heap[k]?:=by
 rw [FN,Array.getElem?_push,if_neg (by rw [Array.size_push]; omega),Array.getElem?_push,if_neg (by omega)]
theorem aOw (w:World):(W1 w).heap[w.heap.size]?=some (.cells #[.int .i64 0] 3):=by
 rw [FN,Array.getElem?_push,if_neg (by rw [Array.size_push]; omega),Array.getElem?_push,if_pos rfl]
theorem aOx (w:World):(W1 w).heap[w.heap.size+1]?=some (.cells #[.int .i64 0] 32):=by
 rw [FN,Array.getElem?_push,if_pos (by rw [Array.size_push])]
noncomputable def C1 (w:World) (h:Gh) (X:Blk):kD:={ cK Es (W1 w) h [X] with dfr:=[dcl w] }
structure aMX (w w':World) (pos e:Int):Prop where
 c4:w'.cell? (P4 w)=some (.int .i64 0)
 c5:w'.cell? (P5 w)=some (.int .i64 0)
 f4:w'.frozen? (P4 w)=false
 f5:w'.frozen? (P5 w)=false
 c5':(w'.setCell (P4 w) (.int .i64 pos)).cell? (P5 w)=some (.int .i64 0)
 f5':(w'.setCell (P4 w) (.int .i64 pos)).frozen? (P5 w)=false
 e4:((w'.setCell (P4 w) (.int .i64 pos)).setCell (P5 w) (.int .i64 e)).cell? (P4 w)=some (.int .i64 pos)
 e5:((w'.setCell (P4 w) (.int .i64 pos)).setCell (P5 w) (.int .i64 e)).cell? (P5 w)=some (.int .i64 e)
theorem AJ {w w':World} {h h':Gh} {X:Blk} {bl:Nat→Blk} (hX:X.live=true) (m:Mem (cK Es w h [X]) (bL [X]) w h) (m':Mem (C1 w h X) bl w' h') (pos e:Int) :
  aMX w w' pos e∧Mem (cK Es w h [X]) bl ((w'.setCell (P4 w) (.int .i64 pos)).setCell (P5 w) (.int .i64 e)) h':=by
 have hb:∀ b,b∈mE h [X]→b<w.heap.size:=fun b hb=>by
  obtain ⟨j,l,hj,hl,hn,rfl⟩:=iM.1 hb
  obtain rfl:j=0:=by simpa using hj
  have e:bL [X] (aB+0)=X:=by simp [bL]
  obtain ⟨o,_,ho⟩:=lR (m.blks (aB+0)) (by rw [e]; exact hX) hl hn
  exact oR ho
 have h4:w'.heap[w.heap.size]?=some (.cells #[.int .i64 0] 3):=(m'.frame _ (by show _<(W1 w).heap.size; rw [wT]; omega) (fun hm=>absurd (hb _ hm) (by omega))).trans (aOw w)
 have h5:w'.heap[w.heap.size+1]?=some (.cells #[.int .i64 0] 32):=(m'.frame _ (by show _<(W1 w).heap.size; rw [wT]; omega) (fun hm=>absurd (hb _ hm) (by omega))).trans (aOx w)
 have hs4:∀ v:Value,(w'.setCell (P4 w) v).heap[w.heap.size]?=some (.cells #[v] 3):=fun v=>by
  simp [World.setCell,P4,Array.getElem?_modify,h4]
 have hs5:∀ v:Value,(w'.setCell (P4 w) v).heap[w.heap.size+1]?=some (.cells #[.int .i64 0] 32):=fun v=>by
  simp [World.setCell,P4,Array.getElem?_modify,h5]
 have ht4:∀ v u:Value,((w'.setCell (P4 w) v).setCell (P5 w) u).heap[w.heap.size]?=some (.cells #[v] 3):=fun v u=>by
  have:=hs4 v
  generalize w'.setCell (P4 w) v=w3 at *
  simp [World.setCell,P5,Array.getElem?_modify,this]
 have ht5:∀ v u:Value,((w'.setCell (P4 w) v).setCell (P5 w) u).heap[w.heap.size+1]?=some (.cells #[u] 32):=fun v u=>by
  have:=hs5 v
  generalize w'.setCell (P4 w) v=w3 at *
  simp [World.setCell,P5,Array.getElem?_modify,this]
 refine ⟨⟨?_,?_,?_,?_,?_,?_,?_,?_⟩,?_⟩
 ·simp [World.cell?,P4,h4]
 ·simp [World.cell?,P5,h5]
 ·simp [World.frozen?,P4,h4]
 ·simp [World.frozen?,P5,h5]
 ·have:=hs5 (.int .i64 pos)
  generalize w'.setCell (P4 w) (.int .i64 pos)=w3 at *
  simp [World.cell?,P5,this]
 ·have:=hs5 (.int .i64 pos)
  generalize w'.setCell (P4 w) (.int .i64 pos)=w3 at *
  simp [World.frozen?,P5,this]
 ·have:=ht4 (.int .i64 pos) (.int .i64 e)
  generalize (w'.setCell (P4 w) (.int .i64 pos)).setCell (P5 w) (.int .i64 e)=w3 at *
  simp [World.cell?,P4,this]
 ·have:=ht5 (.int .i64 pos) (.int .i64 e)
  generalize (w'.setCell (P4 w) (.int .i64 pos)).setCell (P5 w) (.int .i64 e)=w3 at *
  simp [World.cell?,P5,this]
 ·refine Mem.unshift (w1:=W1 w) (w':=w') (dfr:=[dcl w]) (by simpa using hX) m (by rw [wT]; omega) (aAh w) m' (fun k hk=>?_) (by simp [World.setCell]) ⟨rfl,rfl,rfl⟩ ⟨rfl,rfl,rfl⟩
  rw [wT] at hk
  simp only [World.setCell,P4,P5,Array.getElem?_modify]
  rw [if_neg (by omega),if_neg (by omega)]
theorem JF {s:List UInt8} {w:World} {h:Gh} {X:Blk} {f:FuncId} {vr:Value} (hX:X.live=true) (m:Mem (cK Es w h [X]) (bL [X]) w h) (hr:aG h vr (.clo f [.ptr 1000000 0 0])) {tm:Array Value} (hsz:tm.size=32)
  (t0:tm.getD 0 undef=.string ⟨s.toArray⟩) (t1:tm.getD 1 undef=vr) (t4:tm.getD 4 undef=.pointer (some (P4 w))) (t5:tm.getD 5 undef=.pointer (some (P5 w))) :
  Inv (C1 w h X) 32 1 { s:=eP [(0,.d (.str s)),(1,.clo f [.ptr 1000000 0 0]),(4,.d (.val (.pointer (some (P4 w))))),(5,.d (.val (.pointer (some (P5 w)))))],b:=bL [X] } { tmps:=tm,defers:=[dcl w] } (W1 w):=by
 refine ⟨fun n l hn hl=>?_,rfl,hsz,h,fun i=>?_,m.shift (by rw [wT]; omega) (aAh w) [dcl w]⟩
 ·rcases Nat.lt_or_ge n (aB+1) with c | c
  ·exact c
  ·have hm:=m.blks n
   have e:bL [X] n=.free:=by
    unfold bL
    rw [if_pos hn,List.getElem?_eq_none (by rw [List.length_singleton]; omega)]
    rfl
   rw [e] at hm
   simp only [lL] at hm
   have hl':h.L n=some l:=hl
   rw [hm] at hl'
   cases hl'
 ·simp only [eP,bW,dQ]
  split
  ·rename_i e; subst e; simp only [aG,aU]; exact ⟨t5,rfl⟩
  ·split
   ·rename_i e; subst e; simp only [aG,aU]; exact ⟨t4,rfl⟩
   ·split
    ·rename_i e; subst e; rw [t1]; exact hr
    ·split
     ·rename_i e; subst e; simp only [aG,aU]; exact t0
     ·simp only [aG]
theorem FO {w:World} {h:Gh} {X:Blk} (hX:X.live=true) (m:Mem (cK Es w h [X]) (bL [X]) w h):∀ j,j<1→∃ l,(C1 w h X).h0.L (aB+j)=some l:=fun j hj=>by
 obtain rfl:j=0:=by omega
 have e:bL [X] (aB+0)=X:=by simp [bL]
 exact zR (m.blks (aB+0)) (by rw [e]; exact hX)
end Go.Proofs.Tryz
