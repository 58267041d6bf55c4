import Derived.Test.YthpmjipkofbeiaaGreatDoorUSba
import Derived.Test.YthpmjipkofbeiaaGreatDoorUUna
set_option linter.all false
namespace Go.Proofs.Tryz
open Go.Ab
set_option maxRecDepth 100000
set_option maxHeartbeats 8000000
theorem VX {b:Bool} {w:List UInt8} {l rest:List Tk} (hl:er l=VT b w) (hr:isW w rest=false):fB w (l++rest)=(b,rest):=by
 unfold VT at hl
 cases b with
 | true =>
   rw [if_pos rfl] at hl
   obtain ⟨t1,l1,rfl,h1,hl⟩:=aW hl
   obtain rfl:=eO hl
   unfold fB
   rw [List.cons_append,if_pos (jI w (.inl h1) _ (by simp))]
   rfl
 | false =>
   rw [if_neg (by decide)] at hl
   rw [eO hl,List.nil_append]
   unfold fB
   rw [hr]
   rfl
theorem NK {tm:List Tk→cY Tm} {st:List Tk→cY Sm} (hT:∀ l,SfxOk (tm l) l) (hS:∀ l,SfxOk (st l) l):∀ (k m:Nat) (x:Sm) (l:List Tk),l.length≤k→l.length≤m→fW tm st k x l=fW tm st m x l
 | 0,0,x,l,_,_=>rfl
 | 0,m+1,x,l,h,_=>by
   obtain rfl:=List.length_eq_zero_iff.1 (Nat.le_zero.1 h)
   rw [fW,fW,mL]
 | k+1,0,x,l,_,h=>by
   obtain rfl:=List.length_eq_zero_iff.1 (Nat.le_zero.1 h)
   rw [fW,fW,mL]
 | k+1,m+1,x,l,h1,h2=>by
   rw [fW,fW]
   cases ho:bN setW l with
   | none=>rfl
   | some i =>
     have h3:=lI ho
     have h4:=nP gM l.tail
     exact AD rfl (lD hT hS _) fun y l' h=>NK hT hS k m _ l' (by omega) (by omega)
def aIE:List (List UInt8):=bQ::rV::wJoin::wWhere::iO::wHaving::(joiW++lA 0)
theorem aNg {x:Sm} {w:List Tz} (h:WCo x w):∃ z v,w=z::v∧(z=wd wSelect∨z=sg bF):=by
 cases h with
 | sel h=>cases h with
   | sel=>exact ⟨_,_,rfl,.inl rfl⟩
 | par=>exact ⟨_,_,rfl,.inr rfl⟩
theorem aNh:∀ i:Fin 3,(setW[i.1]?).getD [] ∉ aIE∧setW.findIdx? (fun w=>(setW[i.1]?).getD []==w)=some i.1:=by decide
theorem aNi:∀ k:Fin 7,1≤k.1→joiW.findIdx? (fun w=>DB k.1==w)=some (k.1 - 1):=by decide
theorem aNj:joiW.findIdx? (fun w=>DB 0==w)=some 6:=by decide
variable {N:Nat}
mutual
theorem FT:∀ {x:Sm} {w:List Tz},WSm x w→∀ {n:Nat} {l rest:List Tk},er l=w→Ban aIE rest→9*(l++rest).length+8≤N→(l++rest).length≤n →
  eV N (n+1) (l++rest)=fW (bA N 0) (eV N n) rest.length x rest
 | _,_,.one h,n,l,rest,hl,hb,hN,hn=>by
   rw [eV,aBD h hl hb hN hn]
   rfl
 | _,_,.set (i:=i) (a:=a) (x:=x) (y:=y) (wx:=wx) (wy:=wy) hi hx hy,n,l,rest,hl,hb,hN,hn=>by
   obtain ⟨l1,l2,rfl,h1,hl⟩:=eI hl
   obtain ⟨tk,l3,rfl,h2,hl⟩:=aW hl
   obtain ⟨l4,l5,rfl,h4,h5⟩:=eI hl
   obtain ⟨s1,s2⟩:=aNh ⟨i,hi⟩
   rw [show l1++tk::(l4++l5)++rest=l1++tk::(l4++(l5++rest)) from by simp] at hN hn ⊢
   have hx1:=FT hx (rest:=tk::(l4++(l5++rest))) h1 (yM (.inl h2) s1 _) hN hn
   have e1:(l5++rest).length≤(l4++(l5++rest)).length:=by simp
   have e2:(l4++(l5++rest)).length+1≤(l1++tk::(l4++(l5++rest))).length:=by simp
   have e3:rest.length≤(l5++rest).length:=by simp
   have ha:isW gM (l5++rest)=false:=by
    obtain ⟨z,v,rfl,hz⟩:=aNg hy
    obtain ⟨t,l6,rfl,h6,_⟩:=aW h5
    rcases hz with rfl | rfl
    ·exact (eY (.inl h6) _ _).trans (by decide)
    ·exact (eY (.inr h6) _ _).trans (by decide)
   rw [hx1,List.length_cons,fW,rO (.inl h2),s2]
   show aR (jQ (bA N 0) (eV N n) (fB gM (l4++(l5++rest))).2) (fun y l'=>fW (bA N 0) (eV N n) (l4++(l5++rest)).length (uI i (fB gM (l4++(l5++rest))).1 x y) l')=_
   rw [VX h4 ha,aIF hy h5 hb (by omega) (by omega)]
   exact NK (aV N 0) (iY N n) _ _ _ _ (by omega) (Nat.le_refl _)
theorem aBD:∀ {x:Sm} {w:List Tz},WSe x w→∀ {n:Nat} {l rest:List Tk},er l=w→Ban aIE rest→9*(l++rest).length+8≤N→(l++rest).length≤n →
  jQ (bA N 0) (eV N n) (l++rest)=.ok (x,rest)
 | _,_,.sel (d:=d) (s:=s) (is:=is) (wi:=wi) (ft:=ft) (fq:=fq) (fn:=fn) (ws:=ws) (js:=js) (wj:=wj) (w:=w) (ww:=ww) (g:=g) (wg:=wg) (h:=h) (wh:=wh) hi hs hj hw hg hh,n,l,rest,hl,hb,hN,hn=>by
   obtain ⟨t0,l1,rfl,h0,hl⟩:=aW hl
   obtain ⟨ld,l2,rfl,hd,hl⟩:=eI hl
   obtain ⟨li,l3,rfl,hli,hl⟩:=eI hl
   obtain ⟨tf,l4,rfl,hf,hl⟩:=aW hl
   obtain ⟨ls,l5,rfl,hls,hl⟩:=eI hl
   obtain ⟨lj,l6,rfl,hlj,hl⟩:=eI hl
   obtain ⟨lw,l7,rfl,hlw,hl⟩:=eI hl
   obtain ⟨lg,lh,rfl,hlg,hlh⟩:=eI hl
   simp only [List.cons_append,List.append_assoc,List.length_cons] at hN hn ⊢
   have a1:(lh++rest).length≤(lg++(lh++rest)).length:=by simp
   have a2:(lg++(lh++rest)).length≤(lw++(lg++(lh++rest))).length:=by simp
   have a3:(lw++(lg++(lh++rest))).length≤(lj++(lw++(lg++(lh++rest)))).length:=by simp
   have a4:(lj++(lw++(lg++(lh++rest)))).length≤(ls++(lj++(lw++(lg++(lh++rest))))).length:=by simp
   have a5:(tf::(ls++(lj++(lw++(lg++(lh++rest)))))).length≤(li++tf::(ls++(lj++(lw++(lg++(lh++rest)))))).length:=by simp
   have a6:(li++tf::(ls++(lj++(lw++(lg++(lh++rest)))))).length≤(ld++(li++tf::(ls++(lj++(lw++(lg++(lh++rest))))))).length:=by simp
   rw [List.length_cons] at a5
   have hT:aIC (bA N 0) (ld++(li++tf::(ls++(lj++(lw++(lg++(lh++rest))))))).length:=aFZ (by omega)
   have b8:Ban (bQ::rV::wJoin::wWhere::iO::(joiW++lA 0)) (lh++rest):=(aBB hh).ban (by decide) hlh (hb.sub (by decide))
   have b7:Ban (bQ::rV::wJoin::wWhere::(joiW++lA 0)) (lg++(lh++rest)):=(aLs hg).ban (by decide) hlg (b8.sub (by decide))
   have b6:Ban (bQ::rV::wJoin::(joiW++lA 0)) (lw++(lg++(lh++rest))):=(aBB hw).ban (by decide) hlw (b7.sub (by decide))
   have b5:Ban (bQ::rV::wJoin::lA 0) (lj++(lw++(lg++(lh++rest)))):=(aAp hj).ban (by decide) hlj (b6.sub (by decide))
   obtain ⟨c1,c2,c3⟩:=aDH hT hi hli (rest:=tf::(ls++(lj++(lw++(lg++(lh++rest)))))) (by omega) (yM (.inl hf) (by decide) _)
   unfold jQ
   rw [if_neg (aHQ bF (.inl h0) _ (by decide))]
   unfold vL
   rw [eL (jI wSelect (.inl h0) _ (by decide))]
   simp only [cR]
   rw [VX hd c3]
   simp only
   rw [c1,c2]
   simp only [aR]
   rw [eL (jI wFrom (.inl hf) _ (by decide))]
   simp only
   rw [QG hs hls (b5.sub (by decide)) (by omega) (by omega)]
   simp only
   rw [QH hj [] _ hlj (b6.sub (by decide)) (by omega) (by omega) (Nat.le_refl _)]
   simp only
   rw [VW hT hw hlw (by omega) (b7.sub (by decide))]
   simp only
   rw [aAq hT hg hlg (by omega) (b8.sub (by decide))]
   simp only
   rw [VW hT hh hlh (by omega) (hb.sub (by decide))]
   rfl
theorem aIF:∀ {x:Sm} {w:List Tz},WCo x w→∀ {n:Nat} {l rest:List Tk},er l=w→Ban aIE rest→9*(l++rest).length+8≤N→(l++rest).length≤n →
  jQ (bA N 0) (eV N n) (l++rest)=.ok (x,rest)
 | _,_,.sel h,n,l,rest,hl,hb,hN,hn=>aBD h hl hb hN hn
 | _,_,.par (x:=x) h,n,l,rest,hl,hb,hN,hn=>by
   obtain ⟨t1,l1,rfl,h1,hl⟩:=aW hl
   obtain ⟨l2,l3,rfl,h2,hl⟩:=eI hl
   obtain ⟨t3,l4,rfl,h3,hl⟩:=aW hl
   obtain rfl:=eO hl
   rw [show t1::(l2++[t3])++rest=t1::(l2++t3::rest) from by simp] at hN hn ⊢
   rw [List.length_cons] at hN hn
   obtain ⟨m,rfl⟩:∃ m,n=m+1:=⟨n - 1,by omega⟩
   unfold jQ
   rw [if_pos (jI bF (.inr h1) _ (by decide)),List.tail_cons,FT h h2 (yM (.inr h3) (by decide) _) (by omega) (by omega),List.length_cons,fW,rO (.inr h3),show setW.findIdx? (fun w=>aY==w)=none from by decide]
   simp only [aR]
   rw [eL (jI aY (.inr h3) _ (by decide))]
   rfl
theorem QG:∀ {t:List UInt8} {q:List Sm} {nm:List UInt8} {w:List Tz},WSo t q nm w→∀ {n:Nat} {l rest:List Tk},er l=w→Ban [rV] rest→9*(l++rest).length+8≤N→(l++rest).length≤n →
  fF (eV N n) (l++rest)=.ok ((t,q,nm),rest)
 | _,_,_,_,.tab (t:=t) (n:=nm) ht hm,n,l,rest,hl,hb,hN,hn=>by
   obtain ⟨t1,l1,rfl,h1,hl⟩:=aW hl
   have ho:t1.er=wd t→¬ isW bF (t1::l1++rest)=true:=fun h=>by
    refine aHQ bF (.inl h) _ ?_
    cases e:t==bF with
    | false=>rfl
    | true=>rw [beq_iff_eq] at e; subst e; revert ht; decide
   unfold fF
   rw [if_neg (ho h1),List.cons_append,JN ht h1]
   simp only [aR]
   rw [aBC hm hl hb]
 | _,_,_,_,.sub (x:=x) (n:=nm) h hm,n,l,rest,hl,hb,hN,hn=>by
   obtain ⟨t1,l1,rfl,h1,hl⟩:=aW hl
   obtain ⟨l2,l3,rfl,h2,hl⟩:=eI hl
   obtain ⟨t3,l4,rfl,h3,hl⟩:=aW hl
   obtain ⟨t4,l5,rfl,h4,hl⟩:=aW hl
   obtain ⟨t5,l6,rfl,h5,hl⟩:=aW hl
   obtain rfl:=eO hl
   rw [show t1::(l2++[t3,t4,t5])++rest=t1::(l2++t3::t4::t5::rest) from by simp] at hN hn ⊢
   rw [List.length_cons] at hN hn
   obtain ⟨m,rfl⟩:∃ m,n=m+1:=⟨n - 1,by omega⟩
   unfold fF
   rw [if_pos (jI bF (.inr h1) _ (by decide)),List.tail_cons,FT h h2 (yM (.inr h3) (by decide) _) (by omega) (by omega),List.length_cons,fW,rO (.inr h3),show setW.findIdx? (fun w=>aY==w)=none from by decide]
   simp only [aR]
   rw [cQ,if_pos (jI aY (.inr h3) _ (by decide)),List.tail_cons,eL (jI rV (.inl h4) _ (by decide))]
   simp only [cR]
   rw [JN hm h5]
theorem QH:∀ {js:List Jo} {w:List Tz},WJs js w→∀ {n:Nat} {l rest:List Tk} (js0:List Jo) (k:Nat),er l=w→Ban (rV::wJoin::(joiW++lA 0)) rest→9*(l++rest).length+8≤N→(l++rest).length≤n→(l++rest).length≤k →
  fS (bA N 0) (eV N n) k js0 (l++rest)=.ok (js0++js,rest)
 | _,_,.nil,n,l,rest,js0,k,hl,hb,hN,hn,hk=>by
   rw [eO hl,List.nil_append,List.append_nil]
   cases k with
   | zero=>rfl
   | succ k=>rw [fS,HU fun w hw=>hb w (by simp only [List.mem_cons,List.mem_append]; exact .inr (.inr (.inl hw))),hb wJoin (by simp)]; rfl
 | _,_,.cross (t:=t) (q:=q) (n:=nm) (js:=js) hs hj,n,l,rest,js0,k,hl,hb,hN,hn,hk=>by
   obtain ⟨t1,l1,rfl,h1,hl⟩:=aW hl
   obtain ⟨t2,l2,rfl,h2,hl⟩:=aW hl
   obtain ⟨l3,l4,rfl,h3,h4⟩:=eI hl
   simp only [List.cons_append,List.append_assoc,List.length_cons] at hN hn hk ⊢
   have e1:(l4++rest).length≤(l3++(l4++rest)).length:=by simp
   obtain ⟨k,rfl⟩:∃ m,k=m+1:=⟨k - 1,by omega⟩
   rw [fS,rO (.inl h1),aNj]
   simp only [List.tail_cons]
   unfold lC
   rw [eL (jI wJoin (.inl h2) _ (by decide))]
   simp only [cR]
   rw [QG hs h3 ((aAp hj).ban (by decide) h4 (hb.sub (by decide))) (by omega) (by omega)]
   simp only [aR]
   rw [if_pos (by omega)]
   simp only
   rw [QH hj _ k h4 hb (by omega) (by omega) (by omega)]
   simp
 | _,_,.on (k:=kd) (t:=t) (q:=q) (n:=nm) (c:=c) (js:=js) hkd hs hc hj,n,l,rest,js0,k,hl,hb,hN,hn,hk=>by
   obtain ⟨t1,l1,rfl,h1,hl⟩:=aW hl
   obtain ⟨t2,l2,rfl,h2,hl⟩:=aW hl
   obtain ⟨l3,l4,rfl,h3,hl⟩:=eI hl
   obtain ⟨t5,l5,rfl,h5,hl⟩:=aW hl
   obtain ⟨l6,l7,rfl,h6,h7⟩:=eI hl
   simp only [List.cons_append,List.append_assoc,List.length_cons] at hN hn hk ⊢
   have e1:(t5::(l6++(l7++rest))).length≤(l3++t5::(l6++(l7++rest))).length:=by simp
   have e2:(l7++rest).length≤(l6++(l7++rest)).length:=by simp
   rw [List.length_cons] at e1
   obtain ⟨k,rfl⟩:∃ m,k=m+1:=⟨k - 1,by omega⟩
   have hT:aIC (bA N 0) (l6++(l7++rest)).length:=aFZ (by omega)
   have hk1:kd - 1+1=kd:=by omega
   rw [fS,rO (.inl h1),aNi ⟨kd,by omega⟩ hkd.1]
   simp only [List.tail_cons,hk1]
   unfold lC
   rw [eL (jI wJoin (.inl h2) _ (by decide))]
   simp only [cR]
   rw [QG hs h3 (yM (.inl h5) (by decide) _) (by omega) (by omega)]
   simp only [aR]
   rw [if_neg (by omega),eL (jI yG (.inl h5) _ (by decide))]
   simp only
   rw [hT hc l6 (l7++rest) h6 (Nat.le_refl _) ((aAp hj).ban (by decide) h7 (hb.sub (by decide)))]
   simp only
   rw [QH hj _ k h7 hb (by omega) (by omega) (by omega),show max kd 1=kd from by omega]
   simp
end
theorem aDI {x:Sm} {w:List Tz} (h:WSm x w) {l:List Tk} (hl:er l=w) {e:Tk} (he:e.kd=5) {n:Nat} (hN:9*(l.length+1)+8≤N) (hn:l.length+1≤n):eV N (n+1) (l++[e])=.ok (x,[e]):=by
 have q:∀ w,isW w [e]=false:=fun w=>by simp [isW,he]
 rw [FT h hl (fun w _=>q w) (by simpa using hN) (by simpa using hn),List.length_singleton,fW,HU fun w _=>q w]
section
variable {fD:Nat→D} {T:List Tk} {L:Nat} {q:List Tk→cY Tm}
theorem aBi {l m:List Tk} {s:List UInt8} (ha:At T l) (h:gJ l=.ok (s,m)):At T m∧m.length+1=l.length:=by
 cases l with
 | nil=>cases h
 | cons t r =>
   have hns:gJ (t::r)=if t.kd=1∧bP jZ t.rw=true then .ok (t.rw,r) else .error t.fr:=rfl
   rw [hns] at h
   split at h
   ·rename_i hk
    cases h
    exact ⟨ha.to (bU (t::m)) (ha.ok.cons (iS (by omega) (by omega))),rfl⟩
   ·cases h
theorem pG (hF:iN fD) {l:List Tk} (ha:At T l) (hT:T.length≤10000) :
  (∃ e,gJ l=.error e∧CfX sC Es 157 [.ptr 1000000 0 0] [dE T l] (.d (fD e)) (gN 1)) ∨
  (∃ s m,gJ l=.ok (s,m)∧At T m∧m.length+1=l.length∧Cf Es 157 [.ptr 1000000 0 0] [dE T l] (.d (.str s)) [dE T m]):=by
 have h1:=aKB hF ha hT
 cases hp:gJ l with
 | error e=>rw [hp] at h1; exact .inl ⟨e,rfl,h1⟩
 | ok x =>
   obtain ⟨s,m⟩:=x
   rw [hp] at h1
   exact .inr ⟨s,m,rfl,(aBi ha hp).1,(aBi ha hp).2,h1⟩
theorem MZ (hF:iN fD) (hq:Rule Es fD T L 31 q) {l:List Tk} (ha:At T l) (hl:l.length≤L) (hT:T.length≤10000) (k:Nat) (hk:k≤10) :
  (∃ e,kG q k l=.error e∧CfX sC Es 218 [.ptr 1000000 0 0,.d (.int .i64 ((k+1:Nat):Int))] [dE T l] (.d (fD e)) (gN 1)) ∨
  (∃ ks m,kG q k l=.ok (ks,m)∧Cf Es 218 [.ptr 1000000 0 0,.d (.int .i64 ((k+1:Nat):Int))] [dE T l] (.d (.sl (ks.map Tm.c))) [dE T m]):=by
 have h1:=aKK hF hq hT ha hl k hk
 cases hp:kG q k l with
 | error e=>rw [hp] at h1; exact .inl ⟨e,rfl,h1⟩
 | ok x =>
   obtain ⟨s,m⟩:=x
   rw [hp] at h1
   exact .inr ⟨s,m,rfl,h1⟩
theorem aFy (hF:iN fD) (hq:Rule Es fD T L 31 q) {l:List Tk} (ha:At T l) (hl:l.length≤L) (hT:T.length≤10000) (i:Nat) (hi:i<4) :
  (∃ e,oA q i l=.error e∧CfX sC Es 219 [.ptr 1000000 0 0,.d (.int .i64 i)] [dE T l] (.d (fD e)) (gN 1)) ∨
  (∃ t m,oA q i l=.ok (t,m)∧Cf Es 219 [.ptr 1000000 0 0,.d (.int .i64 i)] [dE T l] t.a [dE T m]):=by
 have h1:=TQ hF hq hT ha hl i hi
 cases hp:oA q i l with
 | error e=>rw [hp] at h1; exact .inl ⟨e,rfl,h1⟩
 | ok x =>
   obtain ⟨s,m⟩:=x
   rw [hp] at h1
   exact .inr ⟨s,m,rfl,h1⟩
theorem aKP {l:List Tk} (ha:At T l) (hT:T.length≤10000) (k2:¬ (eU l).kd=2) (k3:¬ (eU l).kd=3):∃ z:Int,¬ z=2∧¬ z=3 ∧
  Cf Es 61 [.ptr 1000000 0 0] [dE T l] (.agg [.d (.int .i64 z),.d (.str (eU l).rw),.d (.int .i64 (eU l).fr)]) [dE T l]:=by
 have hp:=iQ (tR ha.sfx ha.ne hT)
 refine ⟨_,?_,?_,hp⟩
 ·split <;> omega
 ·split <;> omega
theorem UX (hF:iN fD) (hq:Rule Es fD T L 31 q) (hT:T.length≤10000) {t:Tk} {r:List Tk} (ha:At T (t::r)) (hl:r.length≤L) (k2:¬ t.kd=2) (k3:¬ t.kd=3) :
  CfO Es 213 [.ptr 1000000 0 0] [dE T (t::r)] (eZ fD T (aDs q (t::r))):=by
 obtain ⟨z,z2,z3,hp⟩:=aKP ha hT k2 k3
 simp only [eU] at hp
 have hTl:=ha.sfx.length_le
 generalize ho:eZ fD T (aDs q (t::r))=o
 rw [aDs,if_neg k2,if_neg k3] at ho
 refine eM bI (fn:=Tryz.f213) (by kernel_rfl) rfl (by kernel_rfl) (by decide) o (by simp) (by simp [dE]) ?_
 refine gs ?_
 refine hZ (hp) ?_
 refine gs ?_
 cases hw1:isW wTrue (t::r) with
 | true =>
   rw [hw1,if_pos rfl] at ho
   have ht:Cf Es _ _ _ _ [dE T r]:=dK ha hT hw1
   subst ho
   refine hZ (ht) ?_
   refine gs ?_
   refine aC (aA (iQ (gL 3 [])) (by simp) ?_)
   simp only [eZ]
   simp [cD,Tm.c,dC] <;> exact gz
 | false =>
 rw [hw1,if_neg (by simp)] at ho
 refine hZ (eE ha hT hw1) ?_
 refine gs ?_
 cases hw2:isW wFalse (t::r) with
 | true =>
   rw [hw2,if_pos rfl] at ho
   have ht:Cf Es _ _ _ _ [dE T r]:=dK ha hT hw2
   subst ho
   refine hZ (ht) ?_
   refine gs ?_
   refine aC (aA (iQ (gL 3 [])) (by simp) ?_)
   simp only [eZ]
   simp [cD,Tm.c,dC] <;> exact gz
 | false =>
 rw [hw2,if_neg (by simp)] at ho
 refine hZ (eE ha hT hw2) ?_
 refine gs ?_
 cases hw3:isW wNull (t::r) with
 | true =>
   rw [hw3,if_pos rfl] at ho
   have ht:Cf Es _ _ _ _ [dE T r]:=dK ha hT hw3
   have ha1:At T r:=ha.tl hw3
   refine hZ (ht) ?_
   refine gs ?_
   refine aC (aA (iQ (gL 1 [])) (by simp) ?_)
   simp [cD,Tm.c,dC]
   refine gw ?_
   cases hi:bN [EQ,uD,uE] r with
   | some i =>
     rw [hi] at ho
     simp only at ho
     subst ho
     have hil:i<3:=by
      unfold bN at hi
      exact (List.findIdx?_eq_some_iff_getElem.1 hi).1
     have hwr:=wI (n:=(i:Int)+1)
     have hn1:¬ (i:Int)+1<1:=by omega
     have hcm:(i:Int)+1=1+i:=Int.add_comm _ _
     refine hZ (zZ ha1 hT (by decide) hi) ?_
     simp only [eZ]
     simp [hwr,hn1,Tm.c,dC]
     refine gw ?_
     all_goals (try exact hcm)
   | none =>
     rw [hi] at ho
     simp only at ho
     subst ho
     have hf:=PP hF ha1 hT
     refine hZ (HZ ha1 hT (by decide) hi) ?_
     refine gs ?_
     exact pZ (hf)
 | false =>
 rw [hw3,if_neg (by simp)] at ho
 refine hZ (eE ha hT hw3) ?_
 refine gs ?_
 cases hw4:isW bF (t::r) with
 | true =>
   rw [hw4,if_pos rfl] at ho
   have ht:Cf Es _ _ _ _ [dE T r]:=dK ha hT hw4
   have ha1:At T r:=ha.tl hw4
   refine hZ (ht) ?_
   refine gs ?_
   rcases hq.step ha1 hl with ⟨e,he2,hc2⟩ | ⟨x,l2,he2,h2,hl2,hc2⟩
   ·rw [he2] at ho
    subst ho
    exact pZ (hc2)
   rw [he2,bJ] at ho
   refine hZ (hc2) ?_
   refine gs ?_
   rcases dX hF h2 hT [aY] (by decide) with ⟨e,he3,hc3⟩ | ⟨l3,he3,h3,hl3,hc3⟩
   ·rw [he3] at ho
    subst ho
    exact pZ (hc3)
   rw [he3,dW] at ho
   subst ho
   refine hZ (hc3) ?_
   simp only [eZ]
   exact gq
 | false =>
 rw [hw4,if_neg (by simp)] at ho
 refine hZ (eE ha hT hw4) ?_
 refine gs ?_
 cases hw5:isW wLength (t::r) with
 | true =>
   rw [hw5,if_pos rfl] at ho
   have ht:Cf Es _ _ _ _ [dE T r]:=dK ha hT hw5
   have ha1:At T r:=ha.tl hw5
   refine hZ (ht) ?_
   refine gs ?_
   rcases MZ hF hq ha1 hl hT 0 (by decide) with ⟨e,he2,hc2⟩ | ⟨ks,l2,he2,hc2⟩
   ·rw [he2] at ho
    subst ho
    exact pZ (hc2)
   rw [he2,bJ] at ho
   subst ho
   refine hZ (hc2) ?_
   refine gs ?_
   refine aC (aA (iQ (gL 13 ks)) (by simp) ?_)
   simp only [eZ]
   exact gq
 | false =>
 rw [hw5,if_neg (by simp)] at ho
 refine hZ (eE ha hT hw5) ?_
 refine gs ?_
 cases hw6:isW wCoalesce (t::r) with
 | true =>
   rw [hw6,if_pos rfl] at ho
   have ht:Cf Es _ _ _ _ [dE T r]:=dK ha hT hw6
   have ha1:At T r:=ha.tl hw6
   refine hZ (ht) ?_
   refine gs ?_
   rcases MZ hF hq ha1 hl hT 1 (by decide) with ⟨e,he2,hc2⟩ | ⟨ks,l2,he2,hc2⟩
   ·rw [he2] at ho
    subst ho
    exact pZ (hc2)
   rw [he2,bJ] at ho
   subst ho
   refine hZ (hc2) ?_
   refine gs ?_
   refine aC (aA (iQ (gL 27 ks)) (by simp) ?_)
   simp only [eZ]
   exact gq
 | false =>
 rw [hw6,if_neg (by simp)] at ho
 refine hZ (eE ha hT hw6) ?_
 refine gs ?_
 cases hw7:isW wCase (t::r) with
 | true =>
   rw [hw7,if_pos rfl] at ho
   have ht:Cf Es _ _ _ _ [dE T r]:=dK ha hT hw7
   have ha1:At T r:=ha.tl hw7
   refine hZ (ht) ?_
   refine gs ?_
   obtain ⟨ws,hws⟩:∃ ws,ws=[wWhen,wThen,wElse]:=⟨_,rfl⟩
   rw [← hws] at ho
   have hwl:ws.length=3:=by rw [hws]; rfl
   have hwm:ws.map (fun w=>[D.str w])=[[.str wWhen],[.str wThen],[.str wElse]]:=by rw [hws]; rfl
   simp at hwm
   refine iR bI (by decide) (fun y:Nat×List Tm×List Tk=>{ s:=eP [(0,.ptr 1000000 0 0),(2,.ptr 2 0 0),(10,.ref 900 0 y.2.1.length 6),(99,.d (.sl (ws.map fun w=>[.str w]))),(100,.d (.int .i64 3)),(101,.d (.int .i64 y.1))],b:=eG [(1000000,1000000,dE T y.2.2),(2,2,.var zTm),(900,900,.arr 25 6 (y.2.1.map Tm.c) false)] })
    (fun y=>y.1≤3∧y.2.1.length=y.1∧At T y.2.2∧y.2.2.length≤L∧eZ fD T (aR (jP q (ws.drop y.1) y.2.1 y.2.2) fun ks l2=>cR (cQ [wEnd] l2) fun l3=>.ok (cD 26 ks,l3))=o) (fun y=>3 - y.1) (0,[],r) ⟨by simp,rfl,ha1,hl,by simpa using ho⟩
    (FF 10 900 25 6 (by simp) (by simp) (by decide) (by decide) _ [(1000000,1000000,_),(2,2,_),(900,900,_)] ⟨by simp,by simp,by simp [aD,Blk.live,dQ],bH⟩ (by simp [aD,dQ,hwm])) ?_
   rintro ⟨i,ks,l5⟩ ⟨hi3,hkl,h5,hl5,ho3⟩
   simp only at hi3 hkl h5 hl5 ho3
   by_cases hlt:i<3
   ·have hlt':(i:Int)<3:=by omega
    have hiw:i<ws.length:=by omega
    obtain ⟨e0,hee⟩:∃ e,e=ws[i]:=⟨_,rfl⟩
    have hge:∀ h,ws[i]'h=e0:=fun _=>hee.symm
    rw [List.drop_eq_getElem_cons hiw,← hee,jP] at ho3
    simp [hlt,hlt',hwl,hge]
    refine gw ?_
    rcases dX hF h5 hT [e0] (by simp) with ⟨e,he3,hc3⟩ | ⟨l6,he3,h6,hl6,hc3⟩
    ·rw [he3] at ho3
     subst ho3
     exact pZ (hc3)
    rw [he3,dW] at ho3
    refine hZ (hc3) ?_
    refine gs ?_
    rcases hq.step h6 (by omega) with ⟨e,he4,hc4⟩ | ⟨x,l7,he4,h7,hl7,hc4⟩
    ·rw [he4,bT,bT] at ho3
     subst ho3
     exact pZ (hc4)
    rw [he4,bJ] at ho3
    have hb:(ks.length+1)*80≤140737488355328∧ks.length≤9223372036854775806:=by omega
    have hwr:=wI (n:=(i:Int)+1)
    refine hZ (hc4) ?_
    simp [hb,hwr]
    refine gw ?_
    refine ⟨(i+1,ks++[x],l7),⟨by simp only; omega,by simp [hkl],h7,by simp only; omega,ho3⟩,?_,by simp only; omega⟩
    exact sZ _ [(2,2,_),(900,113,_)] (by simp [aD,Blk.live]) (by simp [aD])
   ·obtain rfl:i=3:=by omega
    have hdr:ws.drop 3=[]:=List.drop_of_length_le (by omega)
    rw [hdr,jP,bJ] at ho3
    refine gs ?_
    rcases dX hF h5 hT [wEnd] (by decide) with ⟨e,he3,hc3⟩ | ⟨l6,he3,h6,hl6,hc3⟩
    ·rw [he3] at ho3
     subst ho3
     exact pZ (hc3)
    rw [he3,dW] at ho3
    subst ho3
    refine hZ (hc3) ?_
    refine gs ?_
    refine aC (aA (iQ (gL 26 ks)) (by simp) ?_)
    simp only [eZ]
    exact gq
 | false =>
 rw [hw7,if_neg (by simp)] at ho
 refine hZ (eE ha hT hw7) ?_
 refine gs ?_
 cases hi:bN aggW (t::r) with
 | some i =>
   rw [hi] at ho
   simp only at ho
   have hil:i<4:=by
    unfold bN at hi
    exact (List.findIdx?_eq_some_iff_getElem.1 hi).1
   have ht:Cf Es _ _ _ _ [dE T r]:=zZ ha hT (by decide) hi
   have ha1:At T r:=ha.tl1 hi
   refine hZ (ht) ?_
   refine gs ?_
   rcases aFy hF hq ha1 hl hT i hil with ⟨e,he2,hc2⟩ | ⟨x,l2,he2,hc2⟩
   ·rw [he2] at ho
    subst ho
    exact pZ (hc2)
   rw [he2] at ho
   subst ho
   refine hZ (hc2) ?_
   simp only [eZ]
   exact gq
 | none =>
   rw [hi] at ho
   simp only at ho
   refine hZ (HZ ha hT (by decide) hi) ?_
   refine gs ?_
   refine aC (aA (iQ (gL 40 [])) (by simp) ?_)
   simp [cD,Tm.c,dC]
   refine gw ?_
   rcases pG hF ha hT with ⟨e,he2,hc2⟩ | ⟨a,l1,he2,h1,hl1,hc2⟩
   ·rw [he2] at ho
    subst ho
    exact pZ (hc2)
   rw [he2,bJ] at ho
   refine hZ (hc2) ?_
   refine gs ?_
   cases hd:isW qJ l1 with
   | false =>
     rw [hd,if_neg (by simp)] at ho
     subst ho
     refine hZ (eE h1 hT hd) ?_
     simp only [eZ]
     simp [Tm.c,dC] <;> exact gz
   | true =>
     rw [hd,if_pos rfl] at ho
     refine hZ (dK h1 hT hd) ?_
     refine gs ?_
     rcases pG hF (h1.tl hd) hT with ⟨e,he3,hc3⟩ | ⟨b,l2,he3,h2,hl2,hc3⟩
     ·rw [he3] at ho
      subst ho
      exact SU [1000000] 4 hc3 (by simp) (by simp) (by simp) (by simp) rfl rfl rfl (by kernel_rfl)
     rw [he3,bJ] at ho
     subst ho
     refine hZ (hc3) ?_
     simp only [eZ]
     simp [Tm.c,dC] <;> exact gz
end
end Go.Proofs.Tryz
