import Derived.Test.YthpmjipkofbeiaaGreatDoorAbB
set_option linter.all false
namespace Go.Ab
set_option maxRecDepth 100000
def CfX (en:Value→Ending) (E:dA) (f:FuncId) (xs:List AV) (B:List Blk) (y:AV) (B':List Blk):Prop :=
 eR E.P f=true∧∀ (w:World) (h:Gh) (vs:List Value),bB h vs xs→Mem (cK E w h B) (bL B) w h →
  Calls E.P f ⟨vs⟩ w fun e w'=>∃ v h',e=en v∧aG h' v y∧Mem (cK E w h B) (bL B') w' h'
def sC (v:Value):Ending:=.panicked [{ v,recovered:=false }]
structure OU (en:Value→Ending) (E:dA) (f:FuncId) (args:List AV) (bl:Nat→Blk) (ks:List Nat) (d:Nat) (y:AV) (B':List Blk):Prop where
 nodup:ks.Nodup
 live:∀ n∈ks,(bl n).live=true
 len:ks.length≤B'.length
 free:∀ j,j<B'.length - ks.length→bl (dS d j)=.free
 low:dS d (B'.length - ks.length)≤aB
 cf:∃ kn,CfX en E f (fL (kY ks) bl kn args).1 ((bE ks bl).map (·.1)) y B'
theorem DR {E:dA} {C:kD} (hP:C.P=E.P) (hG:C.G=E.G) {bl blr:Nat→Blk} (hbr:∀ n,blr n ≠ .dead→blr n=bl n) {w:World} {h:Gh} (m:Mem C bl w h) {f:FuncId} {args:List AV} {vs:List Value} (hr:bB h vs args)
  {ks:List Nat} {d:Nat} {y:AV} {B':List Blk} {en:Value→Ending} (ok:OU en E f args blr ks d y B') :
  Calls C.P f ⟨vs⟩ w fun e w'=>∃ v h',e=en v∧h.le h'∧Mem C (bW bl (eC blr (aT ks blr args)++dF ks d B')) w' h'∧aG h' v (iA ks d y):=by
 have hfr:∀ k∈aT ks blr args,kY ks k=none∧∃ e s xs f,blr k=.arr e s xs f:=by
  intro k hk
  rcases List.mem_append.1 hk with hk | hk
  ·exact mF _ k hk
  ·simp only [bE,List.mem_flatMap,List.mem_map] at hk
   obtain ⟨b,⟨n,_,rfl⟩,hk⟩:=hk
   exact nK hk
 have harr:∀ k∈aT ks blr args,∃ e s xs f,bl k=.arr e s xs f:=fun k hk=>by
  obtain ⟨_,e,s,xs,f,hb⟩:=hfr k hk
  exact ⟨e,s,xs,f,by rw [← hbr k (by rw [hb]; simp)]; exact hb⟩
 have hfw:eC blr (aT ks blr args)=eC bl (aT ks blr args):=by
  unfold eC
  apply List.map_congr_left
  intro k hk
  obtain ⟨_,e,s,xs,f,hb⟩:=hfr k hk
  rw [hbr k (by rw [hb]; simp)]
 rw [hfw]
 have hlr:∀ n,(blr n).live=true→blr n=bl n:=fun n hn=>hbr n (fun e=>by rw [e] at hn; cases hn)
 have hrb:∀ n,(blr n).live=true→lL h w n (blr n):=fun n hn=>by rw [hlr n hn]; exact m.blks n
 obtain ⟨h1,held',m1⟩:=yX (aT ks blr args) bl h m harr
 have held:aKi h h1 blr (aT ks blr args):=⟨held'.le,held'.L,fun n hn e s xs f hb=>held'.els n hn e s xs f (by rw [← hbr n (by rw [hb]; simp)]; exact hb),held'.other⟩
 have hks:∀ (j n:Nat),ks[j]?=some n→(bl n).live=true∧n ∉ aT ks blr args∧∃ l,h.L n=some l:=by
  intro j n hj
  have hl0:=ok.live n (List.mem_of_getElem? hj)
  have hl:(bl n).live=true:=by rw [← hlr n hl0]; exact hl0
  exact ⟨hl,(fun hc=>by have:=(hfr n hc).1; rw [jM ok.nodup hj] at this; cases this),zR (m.blks n) hl⟩
 have hbl1:∀ n,n ∉ aT ks blr args→bW bl (eC bl (aT ks blr args)) n=bl n:=fun n hn=>by rw [kB,if_neg hn]
 have hlive1:∀ n,(bW bl (eC bl (aT ks blr args)) n).live=(bl n).live:=fun n=>by
  rw [kB]; split
  ·cases bl n <;> rfl
  ·rfl
 let hc:Gh:={ μ:=h1.μ,L:=fun n=>if aB≤n then (ks[n - aB]?).bind h1.L else none }
 have hcL:∀ j,hc.L (aB+j)=(ks[j]?).bind h1.L:=fun j=>by
  simp only [hc,if_pos (Nat.le_add_right aB j),Nat.add_sub_cancel_left]
 have hcN:∀ (j n:Nat),ks[j]?=some n→hc.L (aB+j)=h.L n:=fun j n hj=>by rw [hcL,hj,Option.bind_some,held.L]
 have ren:Ren h hc (kY ks):=⟨held.le,fun n k loc hk hl=>by
  obtain ⟨j,hj,rfl⟩:=LR hk
  rw [hcN j n hj]; exact hl⟩
 have hB:∀ (j n:Nat),ks[j]?=some n→((bE ks blr).map (·.1))[j]?=some (qG (kY ks) blr true (blr n)).1:=fun j n hj=>by
  simp [bE,hj]
 have hBlen:((bE ks blr).map (·.1)).length=ks.length:=by simp [bE]
 have hnone:∀ n:Nat,(aB≤n→ks[n - aB]?=none)→bL ((bE ks blr).map (·.1)) n=.free∧hc.L n=none:=fun n hn=>by
  unfold bL
  by_cases c:aB≤n
  ·have hk:=hn c
   have hlen:=List.getElem?_eq_none_iff.1 hk
   refine ⟨?_,?_⟩
   ·rw [if_pos c,List.getElem?_eq_none (by rw [hBlen]; exact hlen)]; rfl
   ·simp only [hc,if_pos c,hk,Option.bind_none]
  ·exact ⟨by rw [if_neg c],by simp only [hc,if_neg c]⟩
 have hsome:∀ (n j k:Nat),ks[j]?=some k→n=aB+j→bL ((bE ks blr).map (·.1)) n=(qG (kY ks) blr true (blr k)).1:=fun n j k hj e=>by
  subst e
  unfold bL
  rw [if_pos (Nat.le_add_right _ _),Nat.add_sub_cancel_left,hB j k hj]; rfl
 have livecv:∀ (r:Nat→Option Nat) (bb:Nat→Blk) (kn:Bool) (b:Blk),(qG r bb kn b).1.live=b.live:=fun r bb kn b=>by cases b <;> rfl
 have mc:Mem (cK E w hc ((bE ks blr).map (·.1))) (bL ((bE ks blr).map (·.1))) w hc:=by
  refine ⟨fun n=>?_,m1.con,fun g cs hg=>m1.glob g cs (by rw [hG]; exact hg),?_,?_,Nat.le_refl _,fun _ _ _=>rfl,fun _ _ _ e=>e,fun _ _ _ _ _ e=>e,fun _ _ _ e=>e,rfl,rfl,rfl,fun g cs hg=>by
   obtain ⟨k1,k2,a,ety,z,k3,k4⟩:=m.know g cs (by rw [hG]; exact hg)
   refine ⟨Nat.lt_of_lt_of_le k1 m.size,fun hb=>?_,a,ety,z,(m.frame g k1 k2).trans k3,k4⟩
   obtain ⟨j,l',hj,hl',hn',rfl⟩:=iM.1 hb
   rw [hBlen] at hj
   have hk:ks[j]?=some ks[j]:=List.getElem?_eq_getElem hj
   rw [hcN j _ hk] at hl'
   rcases m.own _ l' (hks j _ hk).1 hl' hn' with c | c
   ·omega
   ·exact k2 c⟩
  ·cases hk:(if aB≤n then ks[n - aB]? else none) with
   | none =>
     obtain ⟨a,b⟩:=hnone n (fun c=>by rw [if_pos c] at hk; exact hk)
     rw [a]; exact b
   | some k =>
     have hn:aB≤n:=by
      rcases Nat.lt_or_ge n aB with c | c
      ·rw [if_neg (by omega)] at hk; cases hk
      ·exact c
     rw [if_pos hn] at hk
     have en:n=aB+(n - aB):=by omega
     rw [hsome n _ k hk en]
     obtain ⟨hl,hnf,_⟩:=hks _ k hk
     refine yZ (h:=h) (h':=hc) (w:=w) (l:=aT ks blr args) hrb ren held.els (n:=k) (by rw [jM ok.nodup hk,← en]) (ok.live k (List.mem_of_getElem? hk)) (hrb k (ok.live k (List.mem_of_getElem? hk))) (fun q hq=>?_) (fun _ _ _=>rfl) (fun loc e1 e2 o v e3=>?_)
     ·refine List.mem_append_right _ ?_
      simp only [bE,List.mem_flatMap,List.mem_map]
      exact ⟨_,⟨k,List.mem_of_getElem? hk,rfl⟩,hq⟩
     ·have:hc.μ loc.blk o=h.μ loc.blk o:=held.other loc.blk (fun q hq l2 e4 e5=>by
       have hqk:q ≠ k:=fun e=>hnf (e ▸ hq)
       obtain ⟨_,e',s',xs',f',hb'⟩:=hfr q hq
       exact (m.apart q k l2 loc hqk (by rw [← hbr q (by rw [hb']; simp),hb']; rfl) hl e4 e1 e5 e2).symm) o
      rw [this] at e3; exact e3
  ·intro i j l l' hij a1 a2 a3 a4 a5 a6
   have get:∀ i l,(bL ((bE ks blr).map (·.1)) i).live=true→hc.L i=some l→∃ q k:Nat,i=aB+q∧ks[q]?=some k∧h.L k=some l:=by
    intro i l b1 b2
    simp only [hc] at b2
    split at b2
    ·rename_i c
     simp only [Option.bind_eq_some_iff] at b2
     obtain ⟨k,hk,hl⟩:=b2
     exact ⟨i - aB,k,by omega,hk,by rw [← held.L]; exact hl⟩
    ·cases b2
   obtain ⟨q,k,rfl,hk,hl⟩:=get i l a1 a3
   obtain ⟨q',k',rfl,hk',hl'⟩:=get j l' a2 a4
   have hkk:k ≠ k':=fun e=>by
    subst e
    have:=jM ok.nodup hk
    rw [jM ok.nodup hk'] at this
    simp only [Option.some.injEq] at this
    omega
   exact m.apart k k' l l' hkk (hks q k hk).1 (hks q' k' hk').1 hl hl' a5 a6
  ·intro i l b1 b2 b3
   right
   simp only [cK,iM,hBlen]
   simp only [hc] at b2
   split at b2
   ·rename_i c
    have b2':=b2
    simp only [Option.bind_eq_some_iff] at b2
    obtain ⟨k,hk,hl⟩:=b2
    exact ⟨i - aB,l,(List.getElem?_eq_some_iff.1 hk).1,by rw [hcL]; exact b2',b3,rfl⟩
   ·cases b2
 obtain ⟨kn,hcf⟩:=ok.cf
 have ra:bB hc vs (fL (kY ks) blr kn args).1:=nU (h:=h) (w:=w) (l:=aT ks blr args) hrb ren held.els args vs (fun k hk=>List.mem_append_left _ (by rw [qN] at hk; exact hk)) hr
 rw [hP]
 refine (hcf.2 w hc vs ra mc).mono fun e w'=>?_
 rintro ⟨v,h2,rfl,ry,m2⟩
 have hfree:∀ j,j<B'.length - ks.length→h.L (dS d j)=none:=fun j hj=>by
  have:=m.blks (dS d j); rw [← hbr (dS d j) (by rw [ok.free j hj]; simp),ok.free j hj] at this; exact this
 let n0:=dS d 0
 let h3:Gh:={ μ:=h2.μ,L:=fun n=>if n0≤n∧n<n0+(B'.length - ks.length) then h2.L (aB+ks.length+(n - n0)) else h1.L n }
 have hnew:∀ j,dS d j=n0+j:=fun j=>by simp only [n0,dS]; omega
 have h3new:∀ j,j<B'.length - ks.length→h3.L (dS d j)=h2.L (aB+ks.length+j):=fun j hj=>by
  simp only [h3]
  rw [if_pos ⟨by rw [hnew]; omega,by rw [hnew]; omega⟩,hnew,Nat.add_sub_cancel_left]
 have h3old:∀ n,h.L n ≠ none→h3.L n=h.L n:=fun n hn=>by
  simp only [h3]
  rw [if_neg,held.L]
  rintro ⟨c1,c2⟩
  have:=hfree (n - n0) (by omega)
  rw [hnew,show n0+(n - n0)=n from by omega] at this
  exact hn this
 have h3high:∀ n,aB≤n→h3.L n=h.L n:=fun n hn=>by
  simp only [h3]
  rw [if_neg,held.L]
  rintro ⟨c1,c2⟩
  have:=ok.low
  rw [hnew] at this; omega
 have hle:h.le h3:=⟨fun b o u e=>m2.mext b o u (held.le b o u e),fun n l e=>by rw [h3old n (by rw [e]; simp)]; exact e⟩
 have nb_old:∀ (j n:Nat),ks[j]?=some n→bZ ks d j=n:=fun j n hj=>by
  unfold bZ
  rw [if_pos (List.getElem?_eq_some_iff.1 hj).1,List.getD_eq_getElem?_getD,hj]; rfl
 have nb_new:∀ j,bZ ks d (ks.length+j)=dS d j:=fun j=>by
  unfold bZ
  rw [if_neg (by omega)]; congr 1; omega
 have h2keep:∀ (j n:Nat),ks[j]?=some n→h2.L (aB+j)=h.L n:=fun j n hj=>by
  obtain ⟨_,_,l,hl⟩:=hks j n hj
  rw [hl]
  exact m2.lkeep _ l (Nat.le_add_right _ _) (by show hc.L _=_; rw [hcN j n hj]; exact hl)
 have h2free:∀ n,(aB≤n→B'.length≤n - aB)→h2.L n=none:=fun n hn=>by
  have:=m2.blks n
  unfold bL at this
  by_cases c:aB≤n
  ·rw [if_pos c,List.getElem?_eq_none (hn c)] at this; exact this
  ·rw [if_neg c] at this; exact this
 have h3nb:∀ j,j<B'.length→h3.L (bZ ks d j)=h2.L (aB+j):=fun j hj=>by
  by_cases c:j<ks.length
  ·have hk:ks[j]?=some ks[j]:=List.getElem?_eq_getElem c
   obtain ⟨_,_,l,hl⟩:=hks j _ hk
   rw [nb_old j _ hk,h2keep j _ hk,h3old _ (by rw [hl]; simp)]
  ·obtain ⟨q,rfl⟩:∃ q,j=ks.length+q:=⟨j - ks.length,by omega⟩
   rw [nb_new,h3new q (by omega),Nat.add_assoc]
 have renb:Ren h2 h3 (rW ks d):=⟨fun _ _ _ e=>e,fun n k loc hk hl=>by
  unfold rW at hk
  split at hk <;> simp only [Option.some.injEq,reduceCtorEq] at hk
  rename_i c
  subst hk
  by_cases cB:n - aB<B'.length
  ·rw [h3nb _ cB,show aB+(n - aB)=n from by omega]; exact hl
  ·rw [h2free n (fun _=>by omega)] at hl; cases hl⟩
 have rres:aG h3 v (iA ks d y):=yY (h:=h2) (w:=w') (l:=[]) (fun n hn=>by simp [Blk.live] at hn) renb (fun k hk=>by cases hk) y v (fun k hk=>by
  obtain ⟨_,e,s,xs,f,hb⟩:=oP y k hk
  cases hb) ry
 have hinj:∀ i j,i<B'.length→j<B'.length→bZ ks d i=bZ ks d j→i=j:=by
  have old_new:∀ i q,i<ks.length→q<B'.length - ks.length→bZ ks d i ≠ dS d q:=fun i q hi hq e=>by
   have hk:ks[i]?=some ks[i]:=List.getElem?_eq_getElem hi
   obtain ⟨_,_,l,hl⟩:=hks i _ hk
   rw [nb_old i _ hk] at e
   rw [e,hfree q hq] at hl; cases hl
  intro i j hi hj e
  by_cases ci:i<ks.length <;> by_cases cj:j<ks.length
  ·have hi':ks[i]?=some ks[i]:=List.getElem?_eq_getElem ci
   have hj':ks[j]?=some ks[j]:=List.getElem?_eq_getElem cj
   rw [nb_old i _ hi',nb_old j _ hj'] at e
   have a:=jM ok.nodup hi'
   rw [e,jM ok.nodup hj'] at a
   simp only [Option.some.injEq] at a
   omega
  ·obtain ⟨q,rfl⟩:∃ q,j=ks.length+q:=⟨j - ks.length,by omega⟩
   rw [nb_new] at e
   exact absurd e (old_new i q ci (by omega))
  ·obtain ⟨q,rfl⟩:∃ q,i=ks.length+q:=⟨i - ks.length,by omega⟩
   rw [nb_new] at e
   exact absurd e.symm (old_new j q cj (by omega))
  ·obtain ⟨q,rfl⟩:∃ q,i=ks.length+q:=⟨i - ks.length,by omega⟩
   obtain ⟨q',rfl⟩:∃ q,j=ks.length+q:=⟨j - ks.length,by omega⟩
   rw [nb_new,nb_new,hnew,hnew] at e
   omega
 have hat:∀ j,j<B'.length→bW bl (eC bl (aT ks blr args)++dF ks d B') (bZ ks d j)=(qG (rW ks d) (fun _=>.dead) true (B'.getD j .dead)).1:=fun j hj=>by
  rw [kA]; exact rJ hinj hj
 have hother:∀ n,(∀ j,j<B'.length→bZ ks d j ≠ n)→bW bl (eC bl (aT ks blr args)++dF ks d B') n=bW bl (eC bl (aT ks blr args)) n:=fun n hn=>by
  rw [kA]; exact rI hn
 have hBat:∀ j,j<B'.length→bL B' (aB+j)=B'.getD j .dead:=fun j hj=>by
  unfold bL
  rw [if_pos (Nat.le_add_right _ _),Nat.add_sub_cancel_left,List.getElem?_eq_getElem hj,List.getD_eq_getElem?_getD,List.getElem?_eq_getElem hj]; rfl
 have hold_other:∀ n l,(∀ j,j<B'.length→bZ ks d j ≠ n)→(bl n).live=true→h.L n=some l→l.nul=false→l.blk<w.heap.size∧l.blk ∉ mE hc ((bE ks blr).map (·.1)):=by
  intro n l hn hl hL hnul
  obtain ⟨cs,ety,hh⟩:=lR (m.blks n) hl hL hnul
  refine ⟨oR hh,fun hmem=>?_⟩
  obtain ⟨j,l',hj,hl',hn',hb'⟩:=iM.1 hmem
  rw [hBlen] at hj
  have hk:ks[j]?=some ks[j]:=List.getElem?_eq_getElem hj
  rw [hcN j _ hk] at hl'
  have hne:ks[j] ≠ n:=fun e=>hn j (by have:=ok.len; omega) (by rw [nb_old j _ hk,e])
  exact m.apart ks[j] n l' l hne (hks j _ hk).1 hl hl' hL hn' hnul hb'
 have view:∀ n,(∃ j,j<B'.length∧bZ ks d j=n)∨(∀ j,j<B'.length→bZ ks d j ≠ n):=fun n=>by
  by_cases c:∃ j,j<B'.length∧bZ ks d j=n
  ·exact .inl c
  ·exact .inr fun j hj e=>c ⟨j,hj,e⟩
 have h3other:∀ n,(∀ j,j<B'.length→bZ ks d j ≠ n)→h3.L n=h.L n:=fun n hn=>by
  simp only [h3]
  rw [if_neg,held.L]
  rintro ⟨c1,c2⟩
  have hq:=hn (ks.length+(n - n0)) (by omega)
  rw [nb_new,hnew] at hq; omega
 refine ⟨v,h3,rfl,hle,?_,rres⟩
 have base_own:∀ b,b∈mE hc ((bE ks blr).map (·.1))→C.w0.heap.size≤b∨b∈C.base:=fun b hb=>by
  obtain ⟨j,l',hj,hl',hn',rfl⟩:=iM.1 hb
  rw [hBlen] at hj
  have hk:ks[j]?=some ks[j]:=List.getElem?_eq_getElem hj
  rw [hcN j _ hk] at hl'
  exact m.own _ l' (hks j _ hk).1 hl' hn'
 refine ⟨fun n=>?_,m2.con,fun g cs hg=>m2.glob g cs (by show E.G g=_; rw [← hG]; exact hg),?_,?_,Nat.le_trans m.size m2.size,?_,fun b o u e=>hle.μ b o u (m.mext b o u e),?_,?_,m2.os.trans m.os,m2.tape.trans m.tape,m2.output.trans m.output,m.know⟩
 ·rcases view n with ⟨j,hj,rfl⟩ | hn
  ·rw [hat j hj]
   have hb2:=m2.blks (aB+j)
   rw [hBat j hj] at hb2
   have hbr:rW ks d (aB+j)=some (bZ ks d j):=by
    unfold rW
    rw [if_pos (Nat.le_add_right _ _),Nat.add_sub_cancel_left]
   cases hlv:(B'.getD j .dead).live with
   | true=>exact yZ (h:=h2) (h':=h3) (w:=w') (l:=[]) (fun n hn=>by simp [Blk.live] at hn) renb (fun k hk=>by cases hk) hbr hlv hb2 (fun k hk=>by
     obtain ⟨_,e,s,xs,f,hb⟩:=nK hk
     cases hb) (fun _ _ _=>rfl) (fun _ _ _ _ _ e=>e)
   | false =>
     cases hb:B'.getD j .dead with
     | var _=>rw [hb] at hlv; simp [Blk.live] at hlv
     | arr _ _ _ _=>rw [hb] at hlv; simp [Blk.live] at hlv
     | iter _ _=>rw [hb] at hlv; simp [Blk.live] at hlv
     | varr _ _ _=>rw [hb] at hlv; simp [Blk.live] at hlv
     | mp _=>rw [hb] at hlv; simp [Blk.live] at hlv
     | dead =>
       rw [hb] at hb2
       obtain ⟨l,hl⟩:=hb2
       exact ⟨l,by rw [h3nb j hj]; exact hl⟩
     | free =>
       rw [hb] at hb2
       show h3.L _=none
       rw [h3nb j hj]; exact hb2
  ·rw [hother n hn]
   refine iE (m1.blks n) ⟨fun b o u e=>m2.mext b o u e,fun k l e=>?_⟩ (fun e=>by rw [h3other n hn,← held.L]; exact e) (fun l a1 a2 a3=>?_) (fun l a1 a2 a3 o u a4=>?_)
   ·rw [held.L] at e
    rw [h3old k (by rw [e]; simp)]; exact e
   ·rw [hlive1] at a1
    rw [held.L] at a2
    obtain ⟨b1,b2⟩:=hold_other n l hn a1 a2 a3
    exact m2.frame l.blk b1 b2
   ·rw [hlive1] at a1
    rw [held.L] at a2
    obtain ⟨b1,b2⟩:=hold_other n l hn a1 a2 a3
    exact m2.mold l.blk b1 b2 o u a4
 ·intro i j l l' hij a1 a2 a3 a4 a5 a6
  have old_vs_new:∀ i l,(∀ q,q<B'.length→bZ ks d q ≠ i)→(bW bl (eC bl (aT ks blr args)++dF ks d B') i).live=true→h3.L i=some l→l.nul=false →
    ∀ q l',q<B'.length→(bL B' (aB+q)).live=true→h2.L (aB+q)=some l'→l'.nul=false→l.blk ≠ l'.blk:=by
   intro i l hi b1 b2 b3 q l' hq b4 b5 b6 e
   rw [hother i hi,hlive1] at b1
   rw [h3other i hi] at b2
   obtain ⟨c1,c2⟩:=hold_other i l hi b1 b2 b3
   rcases m2.own _ l' b4 b5 b6 with c | c
   ·have:w.heap.size≤l'.blk:=c
    omega
   ·rw [← e] at c; exact c2 c
  have lv:∀ q,q<B'.length→(bW bl (eC bl (aT ks blr args)++dF ks d B') (bZ ks d q)).live=true→(bL B' (aB+q)).live=true:=fun q hq e=>by
   rw [hat q hq,livecv] at e; rw [hBat q hq]; exact e
  rcases view i with ⟨q,hq,rfl⟩ | hi <;> rcases view j with ⟨q',hq',rfl⟩ | hj
  ·rw [h3nb q hq] at a3
   rw [h3nb q' hq'] at a4
   exact m2.apart _ _ l l' (fun e=>hij (by have:q=q':=by omega
                                           rw [this])) (lv q hq a1) (lv q' hq' a2) a3 a4 a5 a6
  ·rw [h3nb q hq] at a3
   exact (old_vs_new j l' hj a2 a4 a6 q l hq (lv q hq a1) a3 a5).symm
  ·rw [h3nb q' hq'] at a4
   exact old_vs_new i l hi a1 a3 a5 q' l' hq' (lv q' hq' a2) a4 a6
  ·rw [hother i hi,hlive1] at a1
   rw [hother j hj,hlive1] at a2
   rw [h3other i hi] at a3
   rw [h3other j hj] at a4
   exact m.apart i j l l' hij a1 a2 a3 a4 a5 a6
 ·intro i l a1 a2 a3
  rcases view i with ⟨q,hq,rfl⟩ | hi
  ·rw [hat q hq,livecv] at a1
   rw [h3nb q hq] at a2
   rcases m2.own _ l (by rw [hBat q hq]; exact a1) a2 a3 with c | c
   ·exact .inl (Nat.le_trans m.size c)
   ·exact base_own _ c
  ·rw [hother i hi,hlive1] at a1
   rw [h3other i hi] at a2
   exact m.own i l a1 a2 a3
 ·intro b hb1 hb2
  have hb3:b ∉ mE hc ((bE ks blr).map (·.1)):=fun e=>by
   rcases base_own b e with c | c
   ·omega
   ·exact hb2 c
  exact (m2.frame b (by have:=m.size; show b<w.heap.size; omega) hb3).trans (m.frame b hb1 hb2)
 ·intro b hb1 hb2 o u hu
  have hb3:b ∉ mE hc ((bE ks blr).map (·.1)):=fun e=>by
   rcases base_own b e with c | c
   ·omega
   ·exact hb2 c
  exact m1.mold b hb1 hb2 o u (m2.mold b (by have:=m.size; show b<w.heap.size; omega) hb3 o u hu)
 ·intro n l hn hl
  rw [h3high n hn]
  exact m.lkeep n l hn hl
def gN (nb:Nat):List Blk:=List.replicate nb .dead
theorem HC (nb n:Nat):bL (gN nb) n=if aB≤n∧n<aB+nb then .dead else .free:=by
 unfold bL gN
 by_cases h:aB≤n
 ·rw [if_pos h]
  by_cases h2:n<aB+nb
  ·rw [if_pos ⟨h,h2⟩,List.getElem?_replicate,if_pos (by omega)]; rfl
  ·rw [if_neg (by omega),List.getElem?_replicate,if_neg (by omega)]; rfl
 ·rw [if_neg h,if_neg (fun c=>h c.1)]
theorem HD {C:kD} {nb:Nat} {bl:Nat→Blk} {w:World} {h:Gh} (hhi:∀ n l,aB≤n→C.h0.L n=some l→n<aB+nb) (hin:∀ j,j<nb→∃ l,C.h0.L (aB+j)=some l) (m:Mem C bl w h) :
  Mem C (bL (gN nb)) w { μ:=h.μ,L:=fun n=>if aB≤n∧n<aB+nb then h.L n else none }:=by
 have hd:∀ n,(bL (gN nb) n).live=false:=fun n=>by rw [HC]; split <;> rfl
 refine ⟨fun n=>?_,m.con,m.glob,fun n n' l l' _ h1=>?_,fun n l h1=>?_,m.size,m.frame,m.mext,m.mold,fun n l hn hl=>?_,m.os,m.tape,m.output,m.know⟩
 ·rw [HC]
  split
  ·rename_i hn
   obtain ⟨l,hl⟩:=hin (n - aB) (by omega)
   rw [show aB+(n - aB)=n from by omega] at hl
   simp only [lL]
   exact ⟨l,by rw [if_pos hn]; exact m.lkeep n l hn.1 hl⟩
  ·rename_i hn
   simp only [lL]
   rw [if_neg hn]
 ·rw [hd] at h1; cases h1
 ·rw [hd] at h1; cases h1
 ·simp only
  rw [if_pos ⟨hn,hhi n l hn hl⟩]
  exact m.lkeep n l hn hl
def aEH (E:dA) (ρ:Operand→AV) (o:Oper) (bl:Nat→Blk) (pv:D):Prop :=
 ∃ c fo f xs ks d B',o.op=.call c∧c.callee=.value fo∧tB (ρ fo) (c.args.toList.map ρ)=some (f,xs)∧OU sC E f xs bl ks d (.d pv) B'
def PanStep (E:dA) (ops:Array Oper) (o:Oper) (st:St) (pv:D) (t:List Nat):Prop :=
 eK ops o st.s=some true∧aEH E (mX E.G st.s) o (bM t st.b) pv
theorem DS {E:dA} {ρ ρ':Operand→AV} {o:Oper} {bl:Nat→Blk} {pv:D} (h:∀ x∈o.op.operands,ρ x=ρ' x) (hc:aEH E ρ o bl pv):aEH E ρ' o bl pv:=by
 obtain ⟨c,fo,f,xs,ks,d,B',hop,hcal,hfo,ok⟩:=hc
 rw [hop] at h
 obtain ⟨callee,args,argTypes⟩:=c
 simp only at hcal
 subst hcal
 simp only [Op.operands,Call.operands] at h
 have ha:args.toList.map ρ=args.toList.map ρ':=List.map_congr_left fun x hx=>h x (by simp [Array.mem_toList_iff.1 hx])
 have hf:ρ fo=ρ' fo:=h fo (by simp)
 exact ⟨_,fo,f,xs,ks,d,B',hop,rfl,by simp only [← hf,← ha]; exact hfo,ok⟩
theorem PanStep.back {E:dA} {ops:Array Oper} {x y:Oper} {s s1:St} {tx wx ty:List Nat} {pv:D} (hap:x.apart ops y=true) (h1:EK wx ty)
  (hx:Step E ops x s s1 tx wx) (hy:PanStep E ops y s1 pv ty):PanStep E ops y s pv ty:=by
 obtain ⟨a1,a2,a3⟩:=Oper.apart_spec hap
 obtain ⟨vx,wrx,rfl,rfl,hwx,kx⟩:=hx.at
 obtain ⟨hw,hp⟩:=hy
 have noty:∀ n∈ty,bW s.b wrx n=s.b n:=fun n hn=>HT fun p hp e=>h1 p.1 (List.mem_map.2 ⟨p,hp,rfl⟩) (e ▸ hn)
 refine ⟨by simp only [St.put] at hw; rw [qS a1] at hw; exact hw,?_⟩
 have hr:bM ty (s.put x.dst vx wrx).b=bM ty s.b:=by
  funext n
  unfold bM
  split
  ·rename_i hn; simp only [St.put]; exact noty n hn
  ·rfl
 rw [hr] at hp
 exact DS (fun z hz=>by
  simp only [St.put]
  exact FG fun d hd e=>a1 d hd (nM (by rw [← e]; exact hz))) hp
theorem PanStep.fwd {E:dA} {ops:Array Oper} {x y:Oper} {s s1:St} {tx ty:List Nat} {pv:D} (hap:x.apart ops y=true)
  (hx:Step E ops x s s1 tx []) (hy:PanStep E ops y s pv ty):PanStep E ops y s1 pv ty:=by
 obtain ⟨a1,a2,a3⟩:=Oper.apart_spec hap
 obtain ⟨vx,wrx,rfl,hwr,hwx,kx⟩:=hx.at
 obtain rfl:wrx=[]:=List.map_eq_nil_iff.1 hwr.symm
 obtain ⟨hw,hp⟩:=hy
 refine ⟨by simp only [St.put]; rw [qS a1]; exact hw,?_⟩
 simp only [St.put,bW]
 exact DS (fun z hz=>by
  symm
  exact FG fun d hd e=>a1 d hd (nM (by rw [← e]; exact hz))) hp
def aCE (C:kD) (nb:Nat) (pv:D) (R:Exit→Act→World→Prop):Prop:=∀ v a w h,a.defers=C.dfr→aU h.μ v pv→Mem C (bL (gN nb)) w h→R (.panic [{ v,recovered:=false }]) a w
theorem BT {E:dA} {C:kD} (hP:C.P=E.P) (hG:C.G=E.G) {N nb:Nat} (hin:∀ j,j<nb→∃ l,C.h0.L (aB+j)=some l) {ops:Array Oper} {i:Nat} {o:Oper} (hi:ops[i]?=some o) {st:St} {t:List Nat} {a:Act} {w:World} {pv:D}
  (inv:Inv C N nb st a w) (hs:PanStep E ops o st pv t) {K:Act→World→Prop} {Q:Exit→Act→World→Prop} (hQ:aCE C nb pv Q):wpOp E.P ops Q i K a w:=by
 obtain ⟨hhi,hdef,hsz,h,hsl,m⟩:=inv
 obtain ⟨hw,c,fo,f,xs,ks,d,B',hop,hcal,hfo,ok⟩:=hs
 unfold wpOp
 simp only [hi]
 rw [nN hsl hw]
 simp only [if_true]
 left
 have hρ:∀ x,aG h (a.eval x) (mX E.G st.s x):=fun x=>by rw [← hG]; exact vB m hsl x
 have hfv:=hρ fo
 obtain ⟨vs,fst,carr,hfv,hra,rfl⟩:∃ (vs fst carr:List Value),a.eval fo=.func (.func f) ⟨fst⟩ ⟨carr⟩∧bB h vs xs∧vs=fst++c.args.toList.map a.eval++carr:=by
  cases hv:mX E.G st.s fo <;> rw [hv] at hfo hfv <;> simp only [tB,Option.some.injEq,Prod.mk.injEq,reduceCtorEq] at hfo
  ·obtain ⟨rfl,rfl⟩:=hfo
   simp only [aG] at hfv
   obtain ⟨carr,hfv,hcr⟩:=hfv
   exact ⟨_,[],carr,hfv,fC (jS hρ _) hcr,rfl⟩
  ·obtain ⟨rfl,rfl⟩:=hfo
   simp only [aG] at hfv
   obtain ⟨carr,hfv,hcr⟩:=hfv
   exact ⟨_,carr,[],hfv,fC hcr (jS hρ _),by simp⟩
 have hrun:(execOp a.eval o).run E.P w=.ok (.enter f ⟨fst++c.args.toList.map a.eval++carr⟩) w:=by
  have he:=wH (Exists.elim ok.cf fun _ h=>h.1) (⟨fst++c.args.toList.map a.eval++carr⟩:Array Value) w
  rw [← he]
  obtain ⟨dst,op,type,pos,after,guard⟩:=o
  simp only at hop
  subst hop
  obtain ⟨callee,args,argTypes⟩:=c
  simp only at hcal
  subst hcal
  simp only [execOp,resolve,hfv,Deferred.ofValue,Sem.run_bind,Sem.run_pure,Result.andThen_ok,invoke]
  congr 2
  apply Array.ext'
  simp
 have hcall:=DR hP hG (blr:=bM t st.b) (fun n hn=>(cN (t:=t) (bl:=st.b) rfl hn).symm) m hra ok
 unfold Oper.wp
 rw [hrun]
 simp only [Oper.upon]
 rw [← hP]
 refine hcall.mono fun e w'=>?_
 rintro ⟨v,h',rfl,le,m',rv⟩
 simp only [sC]
 refine hQ v a w' _ hdef ?_ (HD hhi hin m')
 simpa only [iA,jW,aG] using rv
theorem PanStep.backs {E:dA} {ops:Array Oper} {inf:Nat→List Nat×List Nat} {y:Oper} {pv:D} {ty:List Nat}:∀ (l:List Nat) (s sp:St),Path E ops inf l s sp→(∀ i∈l,∀ x,ops[i]?=some x→x.apart ops y=true∧EK (inf i).2 ty)→PanStep E ops y sp pv ty→PanStep E ops y s pv ty
 | [],s,sp,hp,_,h=>by simp only [Path] at hp; subst hp; exact h
 | i::l,s,sp,hp,hf,h=>by
   obtain ⟨o,s1,ho,hs,hp'⟩:=hp
   obtain ⟨f1,f2⟩:=hf i List.mem_cons_self o ho
   exact PanStep.back f1 f2 hs (PanStep.backs l s1 sp hp' (fun j hj=>hf j (List.mem_cons_of_mem _ hj)) h)
theorem ME {E:dA} {C:kD} (hP:C.P=E.P) (hG:C.G=E.G) {N nb:Nat} (hN:N≤aB) (hin:∀ j,j<nb→∃ l,C.h0.L (aB+j)=some l) {ops:Array Oper} (hd:∀ (i:Nat) (o:Oper),ops[i]?=some o→∀ d,o.dst=some d→d<N) {inf:Nat→eX} {Q:Exit→Act→World→Prop}
  {p:Nat} {y:Oper} (hy:ops[p]?=some y) {sp:St} {pv:D} {ty:List Nat} (hpan:PanStep E ops y sp pv ty) (hQ:aCE C nb pv Q) (rest:List Nat):∀ (l:List Nat) (s:St) (a:Act) (w:World),Path E ops inf l s sp→Inv C N nb s a w→wpOps E.P ops Q (l++p::rest) a w
 | [],s,a,w,hp,inv=>by
   simp only [Path] at hp; subst hp
   rw [List.nil_append,wpOps_cons]
   exact BT hP hG hin hy inv hpan hQ
 | i::l,s,a,w,hp,inv=>by
   obtain ⟨o,s1,ho,hs,hp'⟩:=hp
   rw [List.cons_append,wpOps_cons]
   exact mZ hP hG hN ho (hd i o ho) inv hs fun a' w' inv'=>ME hP hG hN hin hd hy hpan hQ rest l s1 a' w' hp' inv'
theorem XX {E:dA} {C:kD} (hP:C.P=E.P) (hG:C.G=E.G) {N nb:Nat} (hN:N≤aB) (hin:∀ j,j<nb→∃ l,C.h0.L (aB+j)=some l) {ops:Array Oper} (hd:∀ (i:Nat) (o:Oper),ops[i]?=some o→∀ d,o.dst=some d→d<N) (hed:oS ops.toList=true)
  {inf:Nat→List Nat×List Nat} {p:Nat} {y:Oper} (hy:ops[p]?=some y) {sp:St} {pv:D} {ty:List Nat} (hpan:PanStep E ops y sp pv ty)
  (hfree:∀ i j,i<j→j<p→((iU ops.toList).getD j 0).testBit i=true∨PG ops inf i j)
  (hfp:∀ i,i<p→((iU ops.toList).getD p 0).testBit i=true∨∀ x,ops[i]?=some x→x.apart ops y=true∧EK (inf i).2 ty)
  (hlate:∀ j,p<j→j<ops.size→((iU ops.toList).getD j 0).testBit p=true) {Q:Exit→Act→World→Prop} (hQ:aCE C nb pv Q) :
  ∀ (fuel:Nat) (l:List Nat) (listed:Array Bool) (s:St) (a:Act) (w:World),l.Pairwise (·<·)→(∀ i,i∈l↔i<p∧listed.getD i true=false)→(∀ i,p≤i→i<ops.size→listed.getD i true=false)→listed.size=ops.size →
    (∀ i k,i<ops.size→listed.getD i true=true→((iU ops.toList).getD i 0).testBit k=true→listed.getD k false=true)→l.length+1≤fuel →
    Path E ops inf l s sp→Inv C N nb s a w→wpAny E.P .any ops Q fuel listed a w:=by
 have hps:p<ops.size:=(Array.getElem?_eq_some_iff.1 hy).1
 intro fuel
 induction fuel with
 | zero=>intro l _ _ _ _ _ _ _ _ _ hlen; omega
 | succ fuel ih =>
   intro l listed s a w hpw hl hun hsz hdc hlen hp inv
   have hget:∀ i,i<ops.size→listed.getD i true=listed.getD i false:=fun i hi=>by simp [hsz,hi]
   refine ⟨fun hr=>?_,fun i hi=>?_⟩
   ·exfalso
    obtain ⟨i,hi,hu,hmin⟩:∃ i,i<ops.size∧listed.getD i true=false∧∀ k,k<i→listed.getD k true=true:=by
     cases l with
     | nil =>
       refine ⟨p,hps,hun p (Nat.le_refl _) hps,fun k hk=>?_⟩
       cases hc:listed.getD k true with
       | true=>rfl
       | false=>have:=(hl k).2 ⟨hk,hc⟩; cases this
     | cons i l =>
       obtain ⟨h1,h2⟩:=(hl i).1 List.mem_cons_self
       refine ⟨i,by omega,h2,fun k hk=>?_⟩
       cases hc:listed.getD k true with
       | true=>rfl
       | false =>
         have hmem:=(hl k).2 ⟨by omega,hc⟩
         rcases List.mem_cons.1 hmem with rfl | hmem
         ·omega
         ·have:=(List.pairwise_cons.1 hpw).1 _ hmem; omega
    have:i∈Region.ready .any ops listed:=mem_ready.2 ⟨hu,ops[i],by simp [hi],fun e he hb=>by
     have hlt:=pP hed (i:=i) (o:=ops[i]) (by simp [hi]) he hb
     rw [← hget _ (by omega)]
     exact hmin _ hlt⟩
    rw [hr] at this
    cases this
   ·obtain ⟨h0,o,ho,hall⟩:=mem_ready.1 hi
    have hlt:i<ops.size:=(Array.getElem?_eq_some_iff.1 ho).1
    have hdone:∀ k,((iU ops.toList).getD i 0).testBit k=true→listed.getD k false=true:=fun k hk=>by
     obtain ⟨e,he,hb,h⟩:=xT hed (by simpa using ho) hk
     rcases h with rfl | h
     ·exact hall e he hb
     ·have hes:e.on<ops.size:=by have:=pP hed (by simpa using ho) he hb; omega
      exact hdc e.on k hes (by rw [hget _ hes]; exact hall e he hb) h
    rcases Nat.lt_trichotomy i p with hip | hip | hip
    ·have hmem:=(hl i).2 ⟨hip,h0⟩
     obtain ⟨l1,l2,rfl⟩:=List.append_of_mem hmem
     have hpw':=List.pairwise_append.1 hpw
     have hfr:∀ j∈l1,PG ops inf j i:=fun j hj=>by
      have hji:j<i:=hpw'.2.2 j hj i List.mem_cons_self
      rcases hfree j i hji hip with h | h
      ·have hj':=(hl j).1 (List.mem_append_left _ hj)
       have:=hdone j h
       rw [← hget j (by omega),hj'.2] at this; cases this
      ·exact h
     obtain ⟨o',s1,ho',hs,hp'⟩:=Path.front l1 s sp hfr hp
     rw [ho] at ho'; cases ho'
     refine mZ hP hG hN ho (hd i o ho) inv hs fun a' w' inv'=>?_
     have hni:∀ j∈l1++l2,j ≠ i:=fun j hj e=>by
      subst e
      rcases List.mem_append.1 hj with h | h
      ·exact absurd (hpw'.2.2 j h j List.mem_cons_self) (by omega)
      ·exact absurd ((List.pairwise_cons.1 hpw'.2.1).1 j h) (by omega)
     refine ih (l1++l2) (listed.setIfInBounds i true) s1 a' w' ?_ (fun j=>?_) (fun j hj hj2=>?_) (by simpa using hsz) (fun j k hj hjl hk=>?_) (by simp at hlen ⊢; omega) hp' inv'
     ·exact List.pairwise_append.2 ⟨hpw'.1,(List.pairwise_cons.1 hpw'.2.1).2,fun x hx y hy=>hpw'.2.2 x hx y (List.mem_cons_of_mem _ hy)⟩
     ·by_cases e:j=i
      ·subst e
       constructor
       ·intro h; exact absurd rfl (hni j h)
       ·rintro ⟨_,h⟩; simp [hsz,hlt] at h
      ·rw [getD_set_ne true (Ne.symm e),← hl j]
       simp [e]
     ·rw [getD_set_ne true (by omega)]
      exact hun j hj hj2
     ·by_cases e:j=i
      ·subst e; exact getD_set_true (hdone k hk)
      ·rw [getD_set_ne true (Ne.symm e)] at hjl
       exact getD_set_true (hdc j k hj hjl hk)
    ·subst hip
     rw [hy] at ho; cases ho
     refine BT hP hG hin hy inv (PanStep.backs l s sp hp (fun j hj x hx=>?_) hpan) hQ
     obtain ⟨h1,h2⟩:=(hl j).1 hj
     rcases hfp j h1 with h | h
     ·have:=hdone j h
      rw [← hget j (by omega),h2] at this; cases this
     ·exact h x hx
    ·have:=hdone p (hlate i hip hlt)
     rw [← hget p hps,hun p (Nat.le_refl _) hps] at this
     cases this
theorem XY {E:dA} {C:kD} (hP:C.P=E.P) (hG:C.G=E.G) {N nb:Nat} (hN:N≤aB) (hin:∀ j,j<nb→∃ l,C.h0.L (aB+j)=some l) {ops:Array Oper} (hd:∀ (i:Nat) (o:Oper),ops[i]?=some o→∀ d,o.dst=some d→d<N) (hed:oS ops.toList=true)
  {inf:Nat→List Nat×List Nat} {p:Nat} {y:Oper} (hy:ops[p]?=some y) {sp:St} {pv:D} {ty:List Nat} (hpan:PanStep E ops y sp pv ty)
  (S:Nat→Bool) (hS:S p=false) (hSs:∀ i,S i=true→i<ops.size)
  (hfree:∀ i j,i<j→S i=true→S j=true→((iU ops.toList).getD j 0).testBit i=true∨PG ops inf i j)
  (hfp:∀ i,S i=true→((iU ops.toList).getD p 0).testBit i=true∨∀ x,ops[i]?=some x→x.apart ops y=true∧EK (inf i).2 ty)
  (hlate:∀ j,S j=false→j ≠ p→j<ops.size→((iU ops.toList).getD j 0).testBit p=true) {Q:Exit→Act→World→Prop} (hQ:aCE C nb pv Q) :
  ∀ (fuel:Nat) (l:List Nat) (listed:Array Bool) (s:St) (a:Act) (w:World),l.Pairwise (·<·)→(∀ i,i∈l↔S i=true∧listed.getD i true=false)→(∀ i,S i=false→i<ops.size→listed.getD i true=false)→listed.size=ops.size →
    (∀ i k,i<ops.size→listed.getD i true=true→((iU ops.toList).getD i 0).testBit k=true→listed.getD k false=true)→l.length+1≤fuel →
    Path E ops inf l s sp→Inv C N nb s a w→wpAny E.P .any ops Q fuel listed a w:=by
 have hps:p<ops.size:=(Array.getElem?_eq_some_iff.1 hy).1
 intro fuel
 induction fuel with
 | zero=>intro l _ _ _ _ _ _ _ _ _ hlen; omega
 | succ fuel ih =>
   intro l listed s a w hpw hl hun hsz hdc hlen hp inv
   have hget:∀ i,i<ops.size→listed.getD i true=listed.getD i false:=fun i hi=>by simp [hsz,hi]
   refine ⟨fun hr=>?_,fun i hi=>?_⟩
   ·exfalso
    obtain ⟨i,hi,hu,hmin⟩:∃ i,i<ops.size∧listed.getD i true=false∧∀ k,k<i→listed.getD k true=true:=by
     have hex:∃ i,i<ops.size∧listed.getD i true=false:=⟨p,hps,hun p hS hps⟩
     obtain ⟨n,hn⟩:=hex
     induction n using Nat.strongRecOn with
     | ind n ihn =>
       by_cases hc:∃ k,k<n∧listed.getD k true=false
       ·obtain ⟨k,hk,hkf⟩:=hc
        exact ihn k hk ⟨by omega,hkf⟩
       ·refine ⟨n,hn.1,hn.2,fun k hk=>?_⟩
        cases hcc:listed.getD k true with
        | true=>rfl
        | false=>exact absurd ⟨k,hk,hcc⟩ hc
    have:i∈Region.ready .any ops listed:=mem_ready.2 ⟨hu,ops[i],by simp [hi],fun e he hb=>by
     have hlt:=pP hed (i:=i) (o:=ops[i]) (by simp [hi]) he hb
     rw [← hget _ (by omega)]
     exact hmin _ hlt⟩
    rw [hr] at this
    cases this
   ·obtain ⟨h0,o,ho,hall⟩:=mem_ready.1 hi
    have hlt:i<ops.size:=(Array.getElem?_eq_some_iff.1 ho).1
    have hdone:∀ k,((iU ops.toList).getD i 0).testBit k=true→listed.getD k false=true:=fun k hk=>by
     obtain ⟨e,he,hb,h⟩:=xT hed (by simpa using ho) hk
     rcases h with rfl | h
     ·exact hall e he hb
     ·have hes:e.on<ops.size:=by have:=pP hed (by simpa using ho) he hb; omega
      exact hdc e.on k hes (by rw [hget _ hes]; exact hall e he hb) h
    by_cases hip:S i=true
    ·have hmem:=(hl i).2 ⟨hip,h0⟩
     obtain ⟨l1,l2,rfl⟩:=List.append_of_mem hmem
     have hpw':=List.pairwise_append.1 hpw
     have hfr:∀ j∈l1,PG ops inf j i:=fun j hj=>by
      have hji:j<i:=hpw'.2.2 j hj i List.mem_cons_self
      have hj':=(hl j).1 (List.mem_append_left _ hj)
      rcases hfree j i hji hj'.1 hip with h | h
      ·have:=hdone j h
       rw [← hget j (hSs j hj'.1),hj'.2] at this; cases this
      ·exact h
     obtain ⟨o',s1,ho',hs,hp'⟩:=Path.front l1 s sp hfr hp
     rw [ho] at ho'; cases ho'
     refine mZ hP hG hN ho (hd i o ho) inv hs fun a' w' inv'=>?_
     have hni:∀ j∈l1++l2,j ≠ i:=fun j hj e=>by
      subst e
      rcases List.mem_append.1 hj with h | h
      ·exact absurd (hpw'.2.2 j h j List.mem_cons_self) (by omega)
      ·exact absurd ((List.pairwise_cons.1 hpw'.2.1).1 j h) (by omega)
     refine ih (l1++l2) (listed.setIfInBounds i true) s1 a' w' ?_ (fun j=>?_) (fun j hj hj2=>?_) (by simpa using hsz) (fun j k hj hjl hk=>?_) (by simp at hlen ⊢; omega) hp' inv'
     ·exact List.pairwise_append.2 ⟨hpw'.1,(List.pairwise_cons.1 hpw'.2.1).2,fun x hx y hy=>hpw'.2.2 x hx y (List.mem_cons_of_mem _ hy)⟩
     ·by_cases e:j=i
      ·subst e
       constructor
       ·intro h; exact absurd rfl (hni j h)
       ·rintro ⟨_,h⟩; simp [hsz,hlt] at h
      ·rw [getD_set_ne true (Ne.symm e),← hl j]
       simp [e]
     ·rw [getD_set_ne true (fun e=>by subst e; rw [hip] at hj; cases hj)]
      exact hun j hj hj2
     ·by_cases e:j=i
      ·subst e; exact getD_set_true (hdone k hk)
      ·rw [getD_set_ne true (Ne.symm e)] at hjl
       exact getD_set_true (hdc j k hj hjl hk)
    have hip':S i=false:=by simpa using hip
    by_cases hpe:i=p
    ·subst hpe
     rw [hy] at ho; cases ho
     refine BT hP hG hin hy inv (PanStep.backs l s sp hp (fun j hj x hx=>?_) hpan) hQ
     obtain ⟨h1,h2⟩:=(hl j).1 hj
     rcases hfp j h1 with h | h
     ·have:=hdone j h
      rw [← hget j (hSs j h1),h2] at this; cases this
     ·exact h x hx
    ·have:=hdone p (hlate i hip' hpe hlt)
     rw [← hget p hps,hun p hS hps] at this
     cases this
theorem Path.append {E:dA} {ops:Array Oper} {inf:Nat→List Nat×List Nat}:∀ {l:List Nat} {l2:List Nat} {s s1 s2:St},Path E ops inf l s s1→Path E ops inf l2 s1 s2→Path E ops inf (l++l2) s s2
 | [],_,_,_,_,h,h2=>by simp only [Path] at h; subst h; exact h2
 | i::l,_,_,_,_,⟨o,s',ho,hs,hp⟩,h2=>⟨o,s',ho,hs,Path.append hp h2⟩
def XZ (N:Nat) (draw:Bool) (ops:Array Oper) (lg:List eX) (t:List Nat):Bool :=
 ops.toList.all (fun o=>match o.dst with | some d=>decide (d<N) | none=>true) &&
 (!draw||(oS ops.toList&&(BK ops (iU ops.toList) (lg++[(t,[])]) ((ops.toList.zipIdx.map fun (o,i)=>(i,o)).take (lg.length+1)) &&
  (List.range ops.size).all fun j=>decide (j≤lg.length)||((iU ops.toList).getD j 0).testBit lg.length)))
def YE (N:Nat) (ops:Array Oper) (lg:List eX) (t:List Nat) (j:Nat) (tj:List Nat):Bool :=
 ops.toList.all (fun o=>match o.dst with | some d=>decide (d<N) | none=>true) &&
 (oS ops.toList&&(BK ops (iU ops.toList) (lg++[(t,[])]) ((ops.toList.zipIdx.map fun (o,i)=>(i,o)).take (lg.length+1)) &&
  (decide (lg.length<j) &&
  (((List.range ops.size).all fun k=>decide (k≤lg.length)||(decide (k=j)||((iU ops.toList).getD k 0).testBit lg.length)) &&
  (((List.range lg.length).all fun i=>((iU ops.toList).getD j 0).testBit i||(match ops[i]?,ops[j]? with | some x,some y=>x.apart ops y&&RN (lg.getD i ([],[])).2 tj | _,_=>false)) &&
  (match ops[j]?,ops[lg.length]? with | some x,some y=>x.apart ops y | _,_=>false))))))
def aKn (E:dA) (N:Nat) (ops:Array Oper) (lg:List eX) (st:St) (t:List Nat):Prop :=
 ∃ j oj s1 tj,ops[j]?=some oj∧Step E ops oj st s1 tj []∧YE N ops lg t j tj=true
def aCF (E:dA) (N:Nat) (draw:Bool) (ops:Array Oper) (lg:List eX) (st:St) (t:List Nat):Prop :=
 XZ N draw ops lg t=true∨(draw=true∧aKn E N ops lg st t)
def SM (E:dA) (N:Nat) (draw:Bool) (ops:Array Oper) (pv:D):List Oper→St→List eX→Prop
 | [],_,_=>False
 | o::rest,st,lg=>match eK ops o st.s with
   | some b=>(b=true→(mR E o st fun st' t wn=>SM E N draw ops pv rest st' (lg++[(t,wn)]))∨∃ t,PanStep E ops o st pv t∧aCF E N draw ops lg st t)∧(b=false→SM E N draw ops pv rest (st.put o.dst .sk []) (lg++[([],[])]))
   | none=>False
theorem MF {E:dA} {N:Nat} {draw:Bool} {ops:Array Oper} {pv:D}:∀ (rest:List Oper) (st:St) (lg:List eX),SM E N draw ops pv rest st lg→(∀ i,rest[i]?=ops[lg.length+i]?) →
  ∃ y sp ext t,ops[lg.length+ext.length]?=some y∧PanStep E ops y sp pv t∧aCF E N draw ops (lg++ext) sp t∧∀ inf:Nat→eX,(∀ i e,ext[i]?=some e→inf (lg.length+i)=e)→Path E ops inf (List.range' lg.length ext.length) st sp
 | [],st,lg,h,_=>h.elim
 | o::rest,st,lg,h,hidx=>by
   have ho:ops[lg.length]?=some o:=by simpa using (hidx 0).symm
   have hidx':∀ e i,rest[i]?=ops[(lg++[e]).length+i]?:=fun e i=>by
    have:=hidx (i+1)
    simp only [List.getElem?_cons_succ] at this
    rw [this]; congr 1; simp; omega
   have fin:∀ (s1:St) (t wn:List Nat),Step E ops o st s1 t wn→SM E N draw ops pv rest s1 (lg++[(t,wn)]) →
     ∃ y sp ext t,ops[lg.length+ext.length]?=some y∧PanStep E ops y sp pv t∧aCF E N draw ops (lg++ext) sp t∧∀ inf:Nat→eX,(∀ i e,ext[i]?=some e→inf (lg.length+i)=e)→Path E ops inf (List.range' lg.length ext.length) st sp:=by
    intro s1 t wn hs hr
    obtain ⟨y,sp,ext,t',h1,h2,h3,h4⟩:=MF rest s1 _ hr (hidx' _)
    refine ⟨y,sp,(t,wn)::ext,t',by rw [← h1]; congr 1; simp; omega,h2,by simpa using h3,fun inf hinf=>?_⟩
    simp only [List.length_cons,List.range'_succ]
    have h0:=hinf 0 (t,wn) rfl
    simp only [Nat.add_zero] at h0
    refine ⟨o,s1,ho,by rw [h0]; exact hs,?_⟩
    have:=h4 inf fun i e he=>by
     have:=hinf (i+1) e (by simpa using he)
     rw [← this]; congr 1; simp; omega
    simpa using this
   simp only [SM] at h
   split at h
   ·rename_i b hb
    cases b with
    | true =>
      rcases h.1 rfl with h | ⟨t,h1,h2⟩
      ·obtain ⟨st',t,wn,hs,hr⟩:=zA hb h
       exact fin st' t wn hs hr
      ·exact ⟨o,st,[],t,by simpa using ho,h1,by simpa using h2,fun inf _=>rfl⟩
    | false=>exact fin _ [] [] (.inr ⟨hb,rfl,rfl,rfl⟩) (h.2 rfl)
   ·exact h.elim
def aKo (E:dA) (po:Option D) (N:Nat) (draw:Bool) (ops:Array Oper) (lg:List eX) (st:St) (f:FuncId) (xs:List AV):Prop :=
 ∃ pv t ks d B',po=some pv∧OU sC E f xs (bM t st.b) ks d (.d pv) B'∧aCF E N draw ops lg st t
def BU (E:dA) (po:Option D) (N:Nat) (draw:Bool) (ops:Array Oper) (lg:List eX) (o:Oper) (st:St) (K:St→List Nat→List Nat→Prop):Prop :=
 match o.op with
 | .call { callee:=.value fo,args,.. }=>match mX E.G st.s fo with
   | .clo f caps=>nV E f (args.toList.map (mX E.G st.s)++caps) o.dst st K∨aKo E po N draw ops lg st f (args.toList.map (mX E.G st.s)++caps)
   | .bnd f fs=>nV E f (fs++args.toList.map (mX E.G st.s)) o.dst st K∨aKo E po N draw ops lg st f (fs++args.toList.map (mX E.G st.s))
   | _=>False
 | _=>fO E o st K
theorem YF {E:dA} {po:Option D} {N:Nat} {draw:Bool} {ops:Array Oper} {lg:List eX} {o:Oper} {st:St} {K:St→List Nat→List Nat→Prop} (hw:eK ops o st.s=some true) (h:BU E po N draw ops lg o st K) :
  mR E o st K∨∃ pv t,po=some pv∧PanStep E ops o st pv t∧aCF E N draw ops lg st t:=by
 unfold BU at h
 split at h
 ·rename_i fo args types hop
  split at h
  ·rename_i f caps hfo
   rcases h with h | ⟨pv,t,ks,d,B',h1,h2,h3⟩
   ·exact .inl (by unfold mR; simp only [hop,hfo]; exact h)
   ·exact .inr ⟨pv,t,h1,⟨hw,_,fo,f,_,ks,d,B',hop,rfl,by rw [hfo]; rfl,h2⟩,h3⟩
  ·rename_i f caps hfo
   rcases h with h | ⟨pv,t,ks,d,B',h1,h2,h3⟩
   ·exact .inl (by unfold mR; simp only [hop,hfo]; exact h)
   ·exact .inr ⟨pv,t,h1,⟨hw,_,fo,f,_,ks,d,B',hop,rfl,by rw [hfo]; rfl,h2⟩,h3⟩
  ·exact h.elim
 ·rename_i hne
  refine .inl ?_
  unfold mR
  split
  ·rename_i e; exact absurd e (hne _ _ _)
  ·exact h
theorem tI {E:dA} {f:FuncId} {xs:List AV} {dst:Option Tmp} {st:St} {K K':St→List Nat→List Nat→Prop} (hk:∀ s t w,K s t w→K' s t w) (h:nV E f xs dst st K):nV E f xs dst st K':=by
 obtain ⟨ks,d,y,B',h1,h2,h3⟩:=h
 exact ⟨ks,d,y,B',h1,h2,hk _ _ _ h3⟩
theorem SN {E:dA} {f:FuncId} {xs:List AV} {dst:Option Tmp} {st:St} {A B:St→List Nat→List Nat→Prop} (h:nV E f xs dst st fun s t w=>A s t w∨B s t w):nV E f xs dst st A∨nV E f xs dst st B:=by
 obtain ⟨ks,d,y,B',h1,h2,h3⟩:=h
 rcases h3 with h3 | h3
 ·exact .inl ⟨ks,d,y,B',h1,h2,h3⟩
 ·exact .inr ⟨ks,d,y,B',h1,h2,h3⟩
theorem aEI {E:dA} {o:Oper} {st:St} {A B:St→List Nat→List Nat→Prop} (h:fO E o st fun s t w=>A s t w∨B s t w):fO E o st A∨fO E o st B:=by
 unfold fO at *
 cases he:zK E.P (mX E.G st.s) o (bM (oE (mX E.G st.s) o) st.b) with
 | none=>rw [he] at h; exact h.elim
 | some p =>
   rw [he] at h
   obtain ⟨v,wr⟩:=p
   simp only at h ⊢
   rcases h with ⟨h1,h2 | h2⟩
   ·exact .inl ⟨h1,h2⟩
   ·exact .inr ⟨h1,h2⟩
theorem aKp {E:dA} {o:Oper} {st:St} {A B:St→List Nat→List Nat→Prop} (h:mR E o st fun s t w=>A s t w∨B s t w):mR E o st A∨mR E o st B:=by
 unfold mR at h
 split at h
 ·rename_i fo args types hop
  split at h
  ·rename_i f caps hfo
   refine (SN h).imp (fun h=>?_) fun h=>?_ <;> (unfold mR; rw [hop]; simp only [hfo]; exact h)
  ·rename_i f caps hfo
   refine (SN h).imp (fun h=>?_) fun h=>?_ <;> (unfold mR; rw [hop]; simp only [hfo]; exact h)
  ·exact h.elim
 ·rename_i hne
  refine (aEI h).imp (fun h=>?_) fun h=>?_ <;> (unfold mR; split <;> first | exact h | (rename_i e; exact absurd e (hne _ _ _)))
theorem HE {E:dA} {o:Oper} {st:St} {A B:St→List Nat→List Nat→Prop} (hk:∀ s t w,A s t w→B s t w) (h:fO E o st A):fO E o st B:=by
 unfold fO at *
 cases he:zK E.P (mX E.G st.s) o (bM (oE (mX E.G st.s) o) st.b) with
 | none=>rw [he] at h; exact h.elim
 | some p =>
   rw [he] at h
   obtain ⟨v,wr⟩:=p
   exact ⟨h.1,hk _ _ _ h.2⟩
theorem HF {E:dA} {o:Oper} {st:St} {A B:St→List Nat→List Nat→Prop} (hk:∀ s t w,A s t w→B s t w) (h:mR E o st A):mR E o st B:=by
 unfold mR at h
 split at h
 ·rename_i fo args types hop
  split at h
  ·rename_i f caps hfo
   unfold mR; simp only [hop,hfo]; exact tI hk h
  ·rename_i f caps hfo
   unfold mR; simp only [hop,hfo]; exact tI hk h
  ·exact h.elim
 ·rename_i hne
  unfold mR
  split
  ·rename_i e; exact absurd e (hne _ _ _)
  ·exact HE hk h
def nY (E:dA) (po:Option D) (N:Nat) (draw:Bool) (ops:Array Oper):List Oper→St→List eX→(St→List eX→Prop)→Prop
 | [],st,lg,K=>K st lg
 | o::rest,st,lg,K=>match eK ops o st.s with
   | some b=>(b=true→BU E po N draw ops lg o st fun st' t wn=>nY E po N draw ops rest st' (lg++[(t,wn)]) K)∧(b=false→nY E po N draw ops rest (st.put o.dst .sk []) (lg++[([],[])]) K)
   | none=>False
theorem uV {E:dA} {po:Option D} {N:Nat} {draw:Bool} {ops:Array Oper}:∀ (rest:List Oper) (st:St) (lg:List eX) (K:St→List eX→Prop),nY E po N draw ops rest st lg K→rX E ops rest st lg K∨∃ pv,po=some pv∧SM E N draw ops pv rest st lg
 | [],st,lg,K,h=>.inl h
 | o::rest,st,lg,K,h=>by
   simp only [nY] at h
   simp only [rX,SM]
   cases hb:eK ops o st.s with
   | none=>rw [hb] at h; exact h.elim
   | some b =>
     rw [hb] at h
     simp only at h ⊢
     cases b with
     | false =>
       rcases uV rest _ _ K (h.2 rfl) with h | ⟨pv,h1,h2⟩
       ·exact .inl ⟨fun e=>(by cases e),fun _=>h⟩
       ·exact .inr ⟨pv,h1,⟨fun e=>(by cases e),fun _=>h2⟩⟩
     | true =>
       rcases YF hb (h.1 rfl) with h | ⟨pv,t,h1,h2,h3⟩
       ·have h2:=HF (fun s t w hk=>uV rest s (lg++[(t,w)]) K hk) h
        rcases aKp h2 with h2 | h2
        ·exact .inl ⟨fun _=>h2,fun e=>(by cases e)⟩
        ·cases po with
         | none=>exact (HF (B:=fun _ _ _=>False) (fun s t w hk=>by obtain ⟨_,e,_⟩:=hk; cases e) h2 |> fun h=>by
           obtain ⟨_,_,_,_,h⟩:=zA hb h
           exact h.elim)
         | some pv =>
           refine .inr ⟨pv,rfl,⟨fun _=>.inl (HF (fun s t w hk=>?_) h2),fun e=>(by cases e)⟩⟩
           obtain ⟨pv',e,hk⟩:=hk
           cases e
           exact hk
       ·exact .inr ⟨pv,h1,⟨fun _=>.inr ⟨t,h2,h3⟩,fun e=>(by cases e)⟩⟩
def AwpP (E:dA) (N nb:Nat) (po:Option D) (c:Code) (st:St) (Q:AExit→St→Prop):Prop :=
 ∀ (C:kD),C.P=E.P→C.G=E.G→(∀ j,j<nb→∃ l,C.h0.L (aB+j)=some l)→∀ a w,Inv C N nb st a w→∀ R:Exit→Act→World→Prop,(∀ e st' a' w',Q e st'→Inv C N nb st' a' w'→R e.to a' w')→(∀ pv,po=some pv→aCE C nb pv R)→c.wp E.P R a w
theorem Awp.P {E:dA} {N nb:Nat} {po:Option D} {c:Code} {st:St} {Q:AExit→St→Prop} (h:Awp E N nb c st Q):AwpP E N nb po c st Q:=fun C hP hG _ a w inv R hR _=>h C hP hG a w inv R hR
theorem SP {E:dA} (hmix:E.P.follows .mixedOrders=true) {N nb:Nat} (hN:N≤aB) {pv:D} {id:Nat} {ops:Array Oper} {draw:Bool} {st:St} {Q:AExit→St→Prop}
  (h:SM E N draw ops pv ops.toList st []):AwpP E N nb (some pv) (.region id ops draw) st Q:=by
 intro C hP hG hin a w inv R hR hQ0
 have hQ:=hQ0 pv rfl
 obtain ⟨y,sp,ext,t,hy,hpan,hok,hpath⟩:=MF _ _ _ h (fun i=>by simp)
 simp only [List.nil_append,List.length_nil,Nat.zero_add] at hok hy hpath
 have hp:=hpath (fun i=>ext.getD i ([],[])) (fun i e he=>by simp [he])
 rcases hok with hok | ⟨hdr,hlo⟩
 ·simp only [XZ,Bool.and_eq_true] at hok
  have hps:ext.length<ops.size:=(Array.getElem?_eq_some_iff.1 hy).1
  have hd:∀ (i:Nat) (o:Oper),ops[i]?=some o→∀ d,o.dst=some d→d<N:=fun i o ho d hd=>by
   have:=hok.1
   rw [List.all_eq_true] at this
   have:=this o (by simpa using Array.mem_of_getElem? ho)
   simpa [hd] using this
  cases draw with
  | false =>
    refine wp_region ?_
    have hl:List.range ops.size=List.range' 0 ext.length++ext.length::List.range' (ext.length+1) (ops.size - ext.length - 1):=by
     rw [List.range_eq_range',show ops.size=ext.length+(1+(ops.size - ext.length - 1)) from by omega,← List.range'_append_1]
     congr 1
     rw [Nat.zero_add,Nat.add_comm 1,List.range'_succ]
     congr 2
     omega
    rw [hl]
    exact ME hP hG hN hin hd hy hpan hQ _ _ st a w hp inv
  | true =>
    simp only [Bool.not_true,Bool.false_or,Bool.and_eq_true] at hok
    refine wp_region_any hmix ?_
    have hmem:∀ j,j≤ext.length→(hj:j<ops.size)→(j,ops[j])∈((ops.toList.zipIdx.map fun (o,i)=>(i,o)).take (ext.length+1)):=fun j hj hjs=>by
     refine List.mem_iff_getElem?.2 ⟨j,?_⟩
     rw [List.getElem?_take,if_pos (by omega),List.getElem?_map]
     simp [hjs]
    have hfree:∀ i j,i<j→j<ext.length→((iU ops.toList).getD j 0).testBit i=true∨PG ops (fun i=>ext.getD i ([],[])) i j:=fun i j hij hj=>by
     have hjs:j<ops.size:=by omega
     have hx:ops[i]?=some ops[i]:=by simp [show i<ops.size from by omega]
     have hy':ops[j]?=some ops[j]:=by simp [hjs]
     have:=lQ _ hok.2.2.1 j ops[j] (hmem j (by omega) hjs) i ops[i] hij hx
     have e1:(ext++[(t,[])]).getD i ([],[])=ext.getD i ([],[]):=by simp [List.getElem?_append_left (show i<ext.length by omega)]
     have e2:(ext++[(t,[])]).getD j ([],[])=ext.getD j ([],[]):=by simp [List.getElem?_append_left hj]
     rw [e1,e2] at this
     refine this.imp (fun e=>e) fun h x y ex ey=>?_
     rw [hx] at ex; rw [hy'] at ey
     cases ex; cases ey
     exact h
    have hfp:∀ i,i<ext.length→((iU ops.toList).getD ext.length 0).testBit i=true∨∀ x,ops[i]?=some x→x.apart ops y=true∧EK ((fun i=>ext.getD i ([],[])) i).2 t:=fun i hi=>by
     have hx:ops[i]?=some ops[i]:=by simp [show i<ops.size from by omega]
     have hye:ops[ext.length]=y:=by
      rw [Array.getElem?_eq_getElem hps] at hy; exact Option.some.inj hy
     have:=lQ _ hok.2.2.1 ext.length ops[ext.length] (hmem _ (Nat.le_refl _) hps) i ops[i] hi hx
     have e1:(ext++[(t,[])]).getD i ([],[])=ext.getD i ([],[]):=by simp [List.getElem?_append_left hi]
     have e2:(ext++[(t,([]:List Nat))]).getD ext.length ([],[])=(t,[]):=by simp
     rw [e1,e2,hye] at this
     refine this.imp (fun e=>e) fun h x ex=>?_
     rw [hx] at ex; cases ex
     exact ⟨h.1,h.2.1⟩
    have hlate:∀ j,ext.length<j→j<ops.size→((iU ops.toList).getD j 0).testBit ext.length=true:=fun j hj hjs=>by
     have:=hok.2.2.2
     rw [List.all_eq_true] at this
     have:=this j (List.mem_range.2 hjs)
     rw [Bool.or_eq_true,decide_eq_true_eq] at this
     rcases this with h | h
     ·omega
     ·exact h
    have hini:∀ i,(Array.replicate ops.size false).getD i true=false↔i<ops.size:=fun i=>by
     by_cases h:i<ops.size <;> simp [h]
    exact XX hP hG hN hin hd hok.2.1 hy hpan hfree hfp hlate hQ ops.size (List.range' 0 ext.length) _ st a _ (List.pairwise_lt_range' ..) (fun i=>by
     rw [hini i]; simp; omega) (fun i _ hi=>(hini i).2 hi) (by simp) (fun i k hi hli=>by
     have:=(hini i).2 hi
     rw [this] at hli; cases hli) (by simp; omega) hp inv.drew
 ·subst hdr
  obtain ⟨j,oj,s1,tj,hoj,hsj,hok⟩:=hlo
  simp only [YE,Bool.and_eq_true,decide_eq_true_eq] at hok
  obtain ⟨hall,hed,hdo,hpj,hlates,hbef,hapy⟩:=hok
  have hps:ext.length<ops.size:=(Array.getElem?_eq_some_iff.1 hy).1
  have hjs:j<ops.size:=(Array.getElem?_eq_some_iff.1 hoj).1
  have hd:∀ (i:Nat) (o:Oper),ops[i]?=some o→∀ d,o.dst=some d→d<N:=fun i o ho d hd=>by
   rw [List.all_eq_true] at hall
   have:=hall o (by simpa using Array.mem_of_getElem? ho)
   simpa [hd] using this
  refine wp_region_any hmix ?_
  rw [hoj,hy] at hapy
  simp only at hapy
  have hpan':=PanStep.fwd hapy hsj hpan
  let inf:Nat→eX:=fun i=>if i=j then (tj,[]) else ext.getD i ([],[])
  have hinf:∀ i,i<ext.length→inf i=ext.getD i ([],[]):=fun i hi=>by
   show (if i=j then _ else _)=_
   rw [if_neg (by omega)]
  have hinfj:inf j=(tj,[]):=if_pos rfl
  have hpj2:Path E ops inf (List.range' 0 ext.length++[j]) st s1:=by
   refine Path.append (hpath inf fun i e he=>?_) ⟨oj,s1,hoj,by rw [hinfj]; exact hsj,rfl⟩
   have hi:=(List.getElem?_eq_some_iff.1 he).1
   rw [hinf i hi]
   simp [he]
  have hmem:∀ k,k≤ext.length→(hk:k<ops.size)→(k,ops[k])∈((ops.toList.zipIdx.map fun (o,i)=>(i,o)).take (ext.length+1)):=fun k hk hks=>by
   refine List.mem_iff_getElem?.2 ⟨k,?_⟩
   rw [List.getElem?_take,if_pos (by omega),List.getElem?_map]
   simp [hks]
  let S:Nat→Bool:=fun i=>decide (i<ext.length)||decide (i=j)
  have hSiff:∀ i,S i=true↔i<ext.length∨i=j:=fun i=>by simp [S]
  refine XY hP hG hN hin hd hed hy hpan' (inf:=inf) S (by
   cases h:S ext.length with
   | false=>rfl
   | true=>rcases (hSiff _).1 h with h | h <;> omega) (fun i hi=>by rcases (hSiff _).1 hi with h | h <;> omega) ?_ ?_ ?_ hQ ops.size (List.range' 0 ext.length++[j]) _ st a _ ?_ (fun i=>?_) (fun i _ hi=>?_) (by simp) (fun i k hi hli=>?_) (by simp; omega) hpj2 inv.drew
  ·intro i k hik hi hk
   rcases (hSiff _).1 hi with hi2 | rfl
   ·have hx:ops[i]?=some ops[i]:=by simp [show i<ops.size from by omega]
    rcases (hSiff _).1 hk with hk | rfl
    ·have hks:k<ops.size:=by omega
     have hy':ops[k]?=some ops[k]:=by simp [hks]
     have:=lQ _ hdo k ops[k] (hmem k (by omega) hks) i ops[i] hik hx
     have e1:(ext++[(t,[])]).getD i ([],[])=ext.getD i ([],[]):=by simp [List.getElem?_append_left hi2]
     have e2:(ext++[(t,[])]).getD k ([],[])=ext.getD k ([],[]):=by simp [List.getElem?_append_left hk]
     rw [e1,e2] at this
     refine this.imp (fun e=>e) fun h x y ex ey=>?_
     rw [hx] at ex; rw [hy'] at ey
     cases ex; cases ey
     rw [hinf i hi2,hinf k hk]
     exact h
    ·rw [List.all_eq_true] at hbef
     have:=hbef i (List.mem_range.2 hi2)
     rw [hx,hoj] at this
     simp only [Bool.or_eq_true,Bool.and_eq_true] at this
     refine this.imp (fun e=>e) fun h x y ex ey=>?_
     rw [hx] at ex; rw [hoj] at ey
     cases ex; cases ey
     rw [hinf i hi2,hinfj]
     exact ⟨h.1,xP h.2,fun n hn=>by cases hn⟩
   ·rcases (hSiff _).1 hk with hk | rfl <;> omega
  ·intro i hi
   rcases (hSiff _).1 hi with hi | rfl
   ·have hx:ops[i]?=some ops[i]:=by simp [show i<ops.size from by omega]
    have hye:ops[ext.length]=y:=by
     rw [Array.getElem?_eq_getElem hps] at hy; exact Option.some.inj hy
    have:=lQ _ hdo ext.length ops[ext.length] (hmem _ (Nat.le_refl _) hps) i ops[i] hi hx
    have e1:(ext++[(t,[])]).getD i ([],[])=ext.getD i ([],[]):=by simp [List.getElem?_append_left hi]
    have e2:(ext++[(t,([]:List Nat))]).getD ext.length ([],[])=(t,[]):=by simp
    rw [e1,e2,hye] at this
    refine this.imp (fun e=>e) fun h x ex=>?_
    rw [hx] at ex; cases ex
    rw [hinf i hi]
    exact ⟨h.1,h.2.1⟩
   ·refine .inr fun x ex=>?_
    rw [hoj] at ex; cases ex
    rw [hinfj]
    exact ⟨hapy,fun n hn=>by cases hn⟩
  ·intro k hk hkp hks
   have hkn:¬ (k<ext.length∨k=j):=fun h=>by rw [(hSiff k).2 h] at hk; cases hk
   rw [List.all_eq_true] at hlates
   have:=hlates k (List.mem_range.2 hks)
   rw [Bool.or_eq_true,Bool.or_eq_true,decide_eq_true_eq,decide_eq_true_eq] at this
   rcases this with h | h | h
   ·omega
   ·omega
   ·exact h
  ·refine List.pairwise_append.2 ⟨List.pairwise_lt_range' ..,List.pairwise_singleton ..,fun x hx y hy'=>?_⟩
   rw [List.mem_singleton] at hy'
   subst hy'
   have:=(List.mem_range'.1 hx)
   omega
  ·have hini:∀ i,(Array.replicate ops.size false).getD i true=false↔i<ops.size:=fun i=>by
    by_cases h:i<ops.size <;> simp [h]
   rw [hini i,hSiff]
   simp
   omega
  ·by_cases h:i<ops.size
   ·simp [h]
   ·exact absurd ‹i<ops.size› h
  ·have hini:(Array.replicate ops.size false).getD i true=false:=by simp [hi]
   rw [hini] at hli; cases hli
def YG (E:dA) (N nb:Nat) (po:Option D) (c:Code) (st:St) (Q:AExit→St→Prop):Prop:=AwpP E N nb po (.loop c) st Q
def bY (E:dA) (N nb:Nat) (po:Option D):Code→St→(AExit→St→Prop)→Prop
 | .skip,st,Q=>Q .normal st
 | .region _ ops draw,st,Q=>nY E po N draw ops ops.toList st [] fun st' lg=>DM N draw ops lg=true∧Q .normal st'
 | .seq x y,st,Q=>bY E N nb po x st fun e st'=>match e with
   | .normal=>bY E N nb po y st' Q
   | e=>Q e st'
 | .cond c x y,st,Q=>match mX E.G st.s c with
   | .d (.bool b)=>(b=true→bY E N nb po x st Q)∧(b=false→bY E N nb po y st Q)
   | .anyb=>bY E N nb po x st Q∧bY E N nb po y st Q
   | _=>False
 | .block id c,st,Q=>bY E N nb po c st fun e st'=>match e with
   | .exit id'=>if id'=id then Q .normal st' else Q (.exit id') st'
   | e=>Q e st'
 | .exit id,st,Q=>Q (.exit id) st
 | .ret,st,Q=>Q .ret st
 | .loop c,st,Q=>YG E N nb po c st Q
 | _,_,_=>False
theorem dN {E:dA} (hmix:E.P.follows .mixedOrders=true) {N nb:Nat} (hN:N≤aB) {po:Option D}:∀ (c:Code) (st:St) (Q:AExit→St→Prop),bY E N nb po c st Q→AwpP E N nb po c st Q
 | .skip,st,Q,h=>fun C hP hG _ a w inv R hR _=>wp_skip (hR .normal st a w h inv)
 | .region id ops draw,st,Q,h=>by
   rcases uV _ _ _ _ h with h' | ⟨pv,rfl,h'⟩
   ·exact (GL hmix hN h').P
   ·exact SP hmix hN h'
 | .seq x y,st,Q,h=>fun C hP hG hin a w inv R hR hQ=>wp_seq (dN hmix hN x st _ h C hP hG hin a w inv _ (fun e st' a' w' hq inv'=>by
   cases e with
   | normal=>exact dN hmix hN y st' Q hq C hP hG hin a' w' inv' R hR hQ
   | exit id=>exact hR _ st' a' w' hq inv'
   | ret=>exact hR _ st' a' w' hq inv') (fun pv e v a' w' g hd hr m=>hQ pv e v a' w' g hd hr m))
 | .cond c x y,st,Q,h=>fun C hP hG hin a w inv R hR hQ=>by
   simp only [bY] at h
   split at h
   ·rename_i b hb
    have hv:=inv.slot (x:=c) (by rw [hG]; exact hb)
    cases b with
    | true=>exact wp_cond_true hv (dN hmix hN x st Q (h.1 rfl) C hP hG hin a w inv R hR hQ)
    | false=>exact wp_cond_false hv (dN hmix hN y st Q (h.2 rfl) C hP hG hin a w inv R hR hQ)
   ·rename_i hb
    have hv:=inv.slotv (x:=c) (by rw [hG]; exact hb)
    obtain ⟨b,hv⟩:=hv
    cases b with
    | true=>exact wp_cond_true hv (dN hmix hN x st Q h.1 C hP hG hin a w inv R hR hQ)
    | false=>exact wp_cond_false hv (dN hmix hN y st Q h.2 C hP hG hin a w inv R hR hQ)
   ·exact h.elim
 | .block id c,st,Q,h=>fun C hP hG hin a w inv R hR hQ=>wp_block (dN hmix hN c st _ h C hP hG hin a w inv _ (fun e st' a' w' hq inv'=>by
   cases e with
   | normal=>exact hR _ st' a' w' hq inv'
   | exit id' =>
     simp only at hq
     simp only [AExit.to,Exit.inBlock]
     split at hq
     ·rename_i e; rw [if_pos e]; exact hR .normal st' a' w' hq inv'
     ·rename_i e; rw [if_neg e]; exact hR (.exit id') st' a' w' hq inv'
   | ret=>exact hR _ st' a' w' hq inv') (fun pv e v a' w' g hd hr m=>hQ pv e v a' w' g hd hr m))
 | .exit id,st,Q,h=>fun C hP hG _ a w inv R hR _=>wp_exit (hR (.exit id) st a w h inv)
 | .ret,st,Q,h=>fun C hP hG _ a w inv R hR _=>wp_ret (hR .ret st a w h inv)
 | .loop c,st,Q,h=>h
 | .rangeFunc ..,st,Q,h=>by simp [bY] at h
 | .scope ..,st,Q,h=>by simp [bY] at h
 | .label ..,st,Q,h=>by simp [bY] at h
 | .goto ..,st,Q,h=>by simp [bY] at h
 | .refuse ..,st,Q,h=>by simp [bY] at h
theorem aKq {E:dA} (hmix:E.P.follows .mixedOrders=true) {N nb:Nat} (hN:N≤aB) {po:Option D} {c:Code} {st:St} {Q:AExit→St→Prop} {ι:Type} (F:ι→St) (I:ι→Prop) (meas:ι→Nat) (i0:ι) (hi:I i0) (h0:Sub E N nb st (F i0))
  (round:∀ i,I i→bY E N nb po c (F i) fun e st'=>match e with
   | .normal=>∃ i',I i'∧Sub E N nb st' (F i')∧meas i'<meas i
   | e=>Q e st'):YG E N nb po c st Q:=by
 intro C hP hG hin a w inv R hR hQ b k cs
 have key:∀ n i a w,I i→meas i=n→Inv C N nb (F i) a w→∃ e a' w',R e a' w'∧Arrives E.P (lone (b.at a (.code c::.inLoop c::k)) cs w) b k cs e a' w':=by
  intro n
  induction n using Nat.strongRecOn with
  | _ n ih =>
    intro i a w hI hn inv
    obtain ⟨e,a₁,w₁,hq,harr⟩:=dN hmix hN c (F i) _ (round i hI) C hP hG hin a w inv (fun e a' w'=>match e with
     | .normal=>∃ i',I i'∧Inv C N nb (F i') a' w'∧meas i'<meas i
     | e=>R e a' w') (fun e st' a' w' hq inv'=>by
       cases e with
       | normal =>
         obtain ⟨i',hI',hs,hm⟩:=hq
         exact ⟨i',hI',hs C hP hG a' w' inv',hm⟩
       | exit id=>exact hR _ st' a' w' hq inv'
       | ret=>exact hR _ st' a' w' hq inv') (fun pv e v a' w' g hd hr m=>hQ pv e v a' w' g hd hr m) b (.inLoop c::k) cs
    cases e with
    | normal =>
      obtain ⟨i',hI',inv',hm⟩:=hq
      obtain ⟨e₂,a₂,w₂,hq₂,harr₂⟩:=ih (meas i') (hn ▸ hm) i' a₁ w₁ hI' rfl inv'
      exact ⟨e₂,a₂,w₂,hq₂,.of_steps (Steps.trans harr (.one step_inLoop)) harr₂⟩
    | exit id=>exact ⟨_,a₁,w₁,hq,.pass (x:=.inLoop c) rfl (fun _ _=>.inl (by simp)) harr⟩
    | goto l=>exact ⟨_,a₁,w₁,hq,.pass (x:=.inLoop c) rfl (fun _ _=>.inl (by simp)) harr⟩
    | ret=>exact ⟨_,a₁,w₁,hq,.pass (x:=.inLoop c) rfl (fun _ _=>.inl (by simp)) harr⟩
    | panic ch=>exact ⟨_,a₁,w₁,hq,.pass (x:=.inLoop c) rfl (fun _ _=>.inl (by simp)) harr⟩
    | outgrown=>exact ⟨_,a₁,w₁,hq,.pass (x:=.inLoop c) rfl (fun _ _=>.inl (by simp)) harr⟩
 obtain ⟨e,a',w',hq,harr⟩:=key _ i0 a w hi rfl (h0 C hP hG a w inv)
 exact ⟨e,a',w',hq,.of_steps (.one step_loop) harr⟩
theorem YH {E:dA} (hmix:E.P.follows .mixedOrders=true) {f:FuncId} {fn:Func} {c:Code} (hf:E.P.funcs[f]?=some fn) (hbody:fn.body=some c) (hent:eR E.P f=true) (hN:fn.ntmps≤aB)
  {xs:List AV} {B B':List Blk} {y:AV} (hx:xs.length≤fn.ntmps)
  (hB0:∀ b∈B,b ≠ .free)
  (h:bY E fn.ntmps B.length none c (begin xs B) fun e st=>match e with
   | .exit _=>False
   | _=>EndsS E fn B.length y B' st):Cf E f xs B y B':=by
 refine ⟨hent,fun w g vs hr m=>?_⟩
 have hl:=(bV.1 hr).1
 refine calls_of_wp hf hbody ?_
 have inv:Inv (cK E w g B) fn.ntmps B.length (begin xs B) { tmps:=⟨vs⟩++Array.replicate (fn.ntmps - (⟨vs⟩:Array Value).size) undef,defers:=[] } w:=by
  refine ⟨fun n l hn hl'=>?_,rfl,by simp; omega,g,fun i=>?_,m⟩
  ·rcases Nat.lt_or_ge n (aB+B.length) with c | c
   ·exact c
   ·have:=m.blks n
    unfold bL at this
    rw [if_pos hn,List.getElem?_eq_none (by omega)] at this
    have hz:g.L n=none:=this
    have:(cK E w g B).h0.L n=g.L n:=rfl
    rw [this,hz] at hl'; cases hl'
  ·simp only [begin]
   by_cases hi:i<vs.length
   ·have hx':i<xs.length:=by omega
    obtain ⟨v,hv,hrv⟩:=(bV.1 hr).2 i _ (List.getElem?_eq_getElem hx')
    rw [List.getElem?_eq_getElem hx',Option.getD_some]
    have:((⟨vs⟩:Array Value)++Array.replicate (fn.ntmps - (⟨vs⟩:Array Value).size) undef).getD i undef=v:=by
     simp only [Array.getD_eq_getD_getElem?]
     rw [Array.getElem?_append_left (by simpa using hi)]
     simp [hv]
    rw [this]; exact hrv
   ·rw [List.getElem?_eq_none (by omega),Option.getD_none]
    simp only [aG,Array.getD_eq_getD_getElem?]
    rw [Array.getElem?_append_right (by simpa using hi)]
    simp only [Array.getElem?_replicate]
    split <;> rfl
 have hin:∀ j,j<B.length→∃ l,(cK E w g B).h0.L (aB+j)=some l:=fun j hj=>by
  have hb:=m.blks (aB+j)
  have e:bL B (aB+j)=B[j]:=by
   unfold bL
   rw [if_pos (by omega),Nat.add_sub_cancel_left,List.getElem?_eq_getElem hj]; rfl
  rw [e] at hb
  have hne:=hB0 _ (List.getElem_mem hj)
  show ∃ l,g.L (aB+j)=some l
  cases hbj:B[j] <;> rw [hbj] at hb hne <;> simp only [lL] at hb
  ·exact absurd rfl hne
  ·exact hb
  ·obtain ⟨l,_,_,h1,_⟩:=hb; exact ⟨l,h1⟩
  ·obtain ⟨l,h1,_⟩:=hb; exact ⟨l,h1⟩
  ·obtain ⟨l,h1,_⟩:=hb; exact ⟨l,h1⟩
  ·obtain ⟨l,h1,_⟩:=hb; exact ⟨l,h1⟩
  ·obtain ⟨l,_,_,h1,_⟩:=hb; exact ⟨l,h1⟩
 refine dN hmix hN c (begin xs B) _ h (cK E w g B) rfl rfl hin _ w inv _ (fun e st1 a' w' hq inv1=>?_) (fun pv e=>by cases e)
 have fin:EndsS E fn B.length y B' st1→a'.defers=[]∧∃ v,(results fn a'.tmps).run E.P w'=.ok v w'∧(∃ v' h',Ending.returned v=.returned v'∧aG h' v' y∧Mem (cK E w g B) (bL B') w' h'):=by
  rintro ⟨st,hsub,v,l,hv,ok,hB,hy⟩
  have inv':=hsub (cK E w g B) rfl rfl _ _ inv1
  obtain ⟨hhi,hdef,hsz,h1,hsl,m1⟩:=inv'
  obtain ⟨u,hu,ru⟩:=pM (C:=cK E w g B) rfl m1 hsl hv
  obtain ⟨h2,m2,hrep⟩:=BQ hhi m1 ok ((jW (aD l) st.b false v).2++l.flatMap (fun p=>(qG (aD l) st.b true (st.b p.2.1)).2)) (fun n hn=>by
   rcases List.mem_append.1 hn with hn | hn
   ·exact oP _ n hn
   ·obtain ⟨p,_,hp⟩:=List.mem_flatMap.1 hn
    exact nK hp) (fun p hp k hk=>List.mem_append_right _ (List.mem_flatMap.2 ⟨p,hp,hk⟩))
  refine ⟨hdef,u,hu,u,h2,rfl,?_,?_⟩
  ·rw [← hy]; exact hrep v u false (fun k hk=>List.mem_append_left _ hk) ru
  ·have e:eG l=bL B':=by
    funext n
    unfold eG
    rw [hB]
    have hinj:∀ (L:List Blk) (k n:Nat) (f:Nat→Blk),(∀ i,i<L.length→f (aB+(k+i))=.free)→bW f ((L.zipIdx k).map fun p=>(aB+p.2,p.1)) n=if aB+k≤n then (match L[n - aB - k]? with | some b=>b | none=>f n) else f n:=by
     intro L
     induction L with
     | nil=>intro k n f _; simp [bW]
     | cons b L ih =>
       intro k n f hfree
       simp only [List.zipIdx_cons,List.map_cons]
       rw [show bW f ((aB+k,b)::((L.zipIdx (k+1)).map fun p=>(aB+p.2,p.1)))=bW (dQ f (aB+k) b) ((L.zipIdx (k+1)).map fun p=>(aB+p.2,p.1)) from rfl]
       rw [ih (k+1) n _ (fun i hi=>by
        simp only [dQ]
        rw [if_neg (by omega)]
        have:=hfree (i+1) (by simp; omega)
        rwa [show k+(i+1)=k+1+i from by omega] at this)]
       by_cases c1:aB+k≤n
       ·rw [if_pos c1]
        by_cases c2:n=aB+k
        ·subst c2
         rw [if_neg (by omega)]
         simp [dQ]
        ·rw [if_pos (by omega),show n - aB - k=(n - aB - (k+1))+1 from by omega,List.getElem?_cons_succ]
         split
         ·rfl
         ·show (if n=aB+k then b else f n)=f n
          rw [if_neg c2]
       ·rw [if_neg c1,if_neg (by omega)]
        simp only [dQ]
        rw [if_neg (by omega)]
    rw [hinj B' 0 n _ (fun i _=>rfl)]
    unfold bL
    simp only [Nat.add_zero,Nat.sub_zero]
    split
    ·cases B'[n - aB]? <;> rfl
    ·rfl
   rw [← e]; exact m2
 cases e with
 | normal=>exact fin hq
 | exit id=>exact hq.elim
 | ret=>exact fin hq
theorem aCG {E:dA} (hmix:E.P.follows .mixedOrders=true) {f:FuncId} {fn:Func} {c:Code} (hf:E.P.funcs[f]?=some fn) (hbody:fn.body=some c) (hent:eR E.P f=true) (hN:fn.ntmps≤aB)
  {xs:List AV} {B:List Blk} {pv:D} (hx:xs.length≤fn.ntmps) (hB:∀ b∈B,b ≠ .free)
  (h:bY E fn.ntmps B.length (some pv) c (begin xs B) fun _ _=>False):CfX sC E f xs B (.d pv) (gN B.length):=by
 refine ⟨hent,fun w g vs hr m=>?_⟩
 have hl:=(bV.1 hr).1
 refine calls_of_wp hf hbody ?_
 have inv:Inv (cK E w g B) fn.ntmps B.length (begin xs B) { tmps:=⟨vs⟩++Array.replicate (fn.ntmps - (⟨vs⟩:Array Value).size) undef,defers:=[] } w:=by
  refine ⟨fun n l hn hl'=>?_,rfl,by simp; omega,g,fun i=>?_,m⟩
  ·rcases Nat.lt_or_ge n (aB+B.length) with c | c
   ·exact c
   ·have:=m.blks n
    unfold bL at this
    rw [if_pos hn,List.getElem?_eq_none (by omega)] at this
    have hz:g.L n=none:=this
    have:(cK E w g B).h0.L n=g.L n:=rfl
    rw [this,hz] at hl'; cases hl'
  ·simp only [begin]
   by_cases hi:i<vs.length
   ·have hx':i<xs.length:=by omega
    obtain ⟨v,hv,hrv⟩:=(bV.1 hr).2 i _ (List.getElem?_eq_getElem hx')
    rw [List.getElem?_eq_getElem hx',Option.getD_some]
    have:((⟨vs⟩:Array Value)++Array.replicate (fn.ntmps - (⟨vs⟩:Array Value).size) undef).getD i undef=v:=by
     simp only [Array.getD_eq_getD_getElem?]
     rw [Array.getElem?_append_left (by simpa using hi)]
     simp [hv]
    rw [this]; exact hrv
   ·rw [List.getElem?_eq_none (by omega),Option.getD_none]
    simp only [aG,Array.getD_eq_getD_getElem?]
    rw [Array.getElem?_append_right (by simpa using hi)]
    simp only [Array.getElem?_replicate]
    split <;> rfl
 have hin:∀ j,j<B.length→∃ l,(cK E w g B).h0.L (aB+j)=some l:=fun j hj=>by
  have hb:=m.blks (aB+j)
  have e:bL B (aB+j)=B[j]:=by
   unfold bL
   rw [if_pos (by omega),Nat.add_sub_cancel_left,List.getElem?_eq_getElem hj]; rfl
  rw [e] at hb
  have hne:=hB _ (List.getElem_mem hj)
  show ∃ l,g.L (aB+j)=some l
  cases hbj:B[j] <;> rw [hbj] at hb hne <;> simp only [lL] at hb
  ·exact absurd rfl hne
  ·exact hb
  ·obtain ⟨l,_,_,h1,_⟩:=hb; exact ⟨l,h1⟩
  ·obtain ⟨l,h1,_⟩:=hb; exact ⟨l,h1⟩
  ·obtain ⟨l,h1,_⟩:=hb; exact ⟨l,h1⟩
  ·obtain ⟨l,h1,_⟩:=hb; exact ⟨l,h1⟩
  ·obtain ⟨l,_,_,h1,_⟩:=hb; exact ⟨l,h1⟩
 refine dN hmix hN c (begin xs B) _ h (cK E w g B) rfl rfl hin _ w inv _ (fun e st a' w' hq inv'=>hq.elim) fun pv' e v a' w' h' hd hr' m'=>?_
 cases e
 exact ⟨hd,v,h',rfl,by simpa only [aG] using hr',m'⟩
inductive Out where
 | ret (y:AV) (B':List Blk)
 | pan (v:D)
def Out.po:Out→Option D
 | .ret ..=>none
 | .pan v=>some v
def CfO (E:dA) (f:FuncId) (xs:List AV) (B:List Blk):Out→Prop
 | .ret y B'=>Cf E f xs B y B'
 | .pan v=>CfX sC E f xs B (.d v) (gN B.length)
def EndsO (E:dA) (fn:Func) (nb:Nat):Out→St→Prop
 | .ret y B',st=>Ends E fn nb y B' st
 | .pan _,_=>False
def aEJ (E:dA) (fn:Func) (nb:Nat):Out→St→Prop
 | .ret y B',st=>EndsS E fn nb y B' st
 | .pan _,_=>False
theorem gA {E:dA} {N nb:Nat} {po:Option D}:∀ (c:Code) (st:St) (Q Q':AExit→St→Prop),(∀ e s,Q e s→Q' e s)→bY E N nb po c st Q→bY E N nb po c st Q'
 | .skip,st,Q,Q',hq,h=>hq _ _ h
 | .region id ops draw,st,Q,Q',hq,h=>by
   simp only [bY] at *
   have key:∀ (rest:List Oper) (st:St) (lg:List eX) (K K':St→List eX→Prop),(∀ s l,K s l→K' s l)→nY E po N draw ops rest st lg K→nY E po N draw ops rest st lg K':=by
    intro rest
    induction rest with
    | nil=>intro st lg K K' hk h; exact hk _ _ h
    | cons o rest ih =>
      intro st lg K K' hk h
      simp only [nY] at *
      split at h
      ·refine ⟨fun e=>?_,fun e=>ih _ _ K K' hk (h.2 e)⟩
       have h1:=h.1 e
       unfold BU at h1
       split at h1
       ·rename_i fo args types hop
        split at h1
        ·rename_i f caps hfo
         unfold BU; simp only [hop,hfo]; exact h1.imp (tI fun _ _ _=>ih _ _ K K' hk) (fun h=>h)
        ·rename_i f caps hfo
         unfold BU; simp only [hop,hfo]; exact h1.imp (tI fun _ _ _=>ih _ _ K K' hk) (fun h=>h)
        ·exact h1.elim
       ·rename_i hne
        unfold BU
        split
        ·rename_i e; exact absurd e (hne _ _ _)
        ·exact HE (fun _ _ _=>ih _ _ K K' hk) h1
      ·exact h.elim
   exact key _ _ _ _ _ (fun s l hh=>⟨hh.1,hq _ _ hh.2⟩) h
 | .seq x y,st,Q,Q',hq,h=>gA x st _ _ (fun e s hh=>by
   cases e with
   | normal=>exact gA y s Q Q' hq hh
   | exit id=>exact hq _ _ hh
   | ret=>exact hq _ _ hh) h
 | .cond c x y,st,Q,Q',hq,h=>by
   simp only [bY] at *
   split at h
   ·exact ⟨fun e=>gA x st Q Q' hq (h.1 e),fun e=>gA y st Q Q' hq (h.2 e)⟩
   ·exact ⟨gA x st Q Q' hq h.1,gA y st Q Q' hq h.2⟩
   ·exact h.elim
 | .block id c,st,Q,Q',hq,h=>gA c st _ _ (fun e s hh=>by
   cases e with
   | normal=>exact hq _ _ hh
   | exit id' =>
     simp only at hh ⊢
     split
     ·rename_i e; rw [if_pos e] at hh; exact hq _ _ hh
     ·rename_i e; rw [if_neg e] at hh; exact hq _ _ hh
   | ret=>exact hq _ _ hh) h
 | .exit id,st,Q,Q',hq,h=>hq _ _ h
 | .ret,st,Q,Q',hq,h=>hq _ _ h
 | .loop c,st,Q,Q',hq,h=>fun C hP hG hin a w inv R hR hQ=>h C hP hG hin a w inv R (fun e s a' w' hh inv'=>hR e s a' w' (hq e s hh) inv') hQ
 | .rangeFunc ..,st,Q,Q',hq,h=>by simp [bY] at h
 | .scope ..,st,Q,Q',hq,h=>by simp [bY] at h
 | .label ..,st,Q,Q',hq,h=>by simp [bY] at h
 | .goto ..,st,Q,Q',hq,h=>by simp [bY] at h
 | .refuse ..,st,Q,Q',hq,h=>by simp [bY] at h
theorem YI {E:dA} (hmix:E.P.follows .mixedOrders=true) {f:FuncId} {fn:Func} {c:Code} (hf:E.P.funcs[f]?=some fn) (hbody:fn.body=some c) (hent:eR E.P f=true) (hN:fn.ntmps≤aB)
  {xs:List AV} {B:List Blk} (o:Out) (hx:xs.length≤fn.ntmps) (hB:∀ b∈B,b ≠ .free)
  (h:bY E fn.ntmps B.length o.po c (begin xs B) fun e st=>match e with
   | .exit _=>False
   | _=>aEJ E fn B.length o st):CfO E f xs B o:=by
 cases o with
 | ret y B'=>exact YH hmix hf hbody hent hN hx hB h
 | pan v=>exact aCG hmix hf hbody hent hN hx hB (gA c _ _ _ (fun e s hh=>by cases e <;> exact hh) h)
theorem EndsO.s {E:dA} {fn:Func} {nb:Nat} {o:Out} {st:St} (h:EndsO E fn nb o st):aEJ E fn nb o st:=by
 cases o with
 | ret y B'=>exact EndsS.mk st (.refl _ _ _ _) h
 | pan v=>exact h
theorem eM {E:dA} (hmix:E.P.follows .mixedOrders=true) {f:FuncId} {fn:Func} {c:Code} (hf:E.P.funcs[f]?=some fn) (hbody:fn.body=some c) (hent:eR E.P f=true) (hN:fn.ntmps≤aB)
  {xs:List AV} {B:List Blk} (o:Out) (hx:xs.length≤fn.ntmps) (hB:∀ b∈B,b ≠ .free)
  (h:bY E fn.ntmps B.length o.po c (begin xs B) fun e st=>match e with
   | .exit _=>False
   | _=>EndsO E fn B.length o st):CfO E f xs B o :=
 YI hmix hf hbody hent hN o hx hB (gA c _ _ _ (fun e s hh=>by cases e <;> first | exact hh | exact EndsO.s hh) h)
theorem aCH {E:dA} {fn:Func} {nb:Nat} {y:AV} {B':List Blk} {st:St}:EndsO E fn nb (.ret y B') st=Ends E fn nb y B' st:=rfl
theorem aCI {E:dA} {fn:Func} {nb:Nat} {v:D} {st:St}:EndsO E fn nb (.pan v) st=False:=rfl
section
variable {E:dA} {po:Option D} {N:Nat} {draw:Bool}
theorem aCJ {ops:Array Oper} {st:St} {lg:List eX} {K:St→List eX→Prop}:nY E po N draw ops [] st lg K=K st lg:=_root_.id rfl
theorem YJ {ops:Array Oper} {o:Oper} {rest:List Oper} {st:St} {lg:List eX} {K:St→List eX→Prop} (hg:o.guard=none):nY E po N draw ops (o::rest) st lg K=BU E po N draw ops lg o st fun st' t wn=>nY E po N draw ops rest st' (lg++[(t,wn)]) K:=by
 simp [nY,eK,hg]
theorem SQ {ops:List Oper} {rest:List Oper} {st:St} {lg:List eX} {K:St→List eX→Prop} {dst:Option Tmp} {op:Op} {ty:TypeId} {pos:String} {after:Array Edge} {j:Nat} {want:Bool} :
  nY E po N draw ⟨ops⟩ ({ dst:=dst,op:=op,type:=ty,pos:=pos,after:=after,guard:=some (j,want) }::rest) st lg K =
   uG (RQ ops j st.s) want (BU E po N draw ⟨ops⟩ lg { dst:=dst,op:=op,type:=ty,pos:=pos,after:=after,guard:=some (j,want) } st fun st' t wn=>nY E po N draw ⟨ops⟩ rest st' (lg++[(t,wn)]) K) (nY E po N draw ⟨ops⟩ rest (st.put dst .sk []) (lg++[([],[])]) K) ⟨⟩:=by
 have he:((⟨ops⟩:Array Oper)[j]?)=ops[j]?:=by simp
 simp only [nY,eK,he,RQ]
 cases ht:(ops[j]?).bind (·.dst) with
 | none=>simp [uG]
 | some t =>
   simp only
   cases e:st.s t with
   | d x =>
     cases x with
     | bool b=>by_cases e:b=want <;> simp [uG,e]
     | _=>simp [uG]
   | sk=>simp [uG]
   | _=>simp [uG]
def Op.callV:Op→Bool
 | .call { callee:=.value _,.. }=>true
 | _=>false
theorem aCK {ops:Array Oper} {lg:List eX} {dst:Option Tmp} {op:Op} {ty:TypeId} {pos:String} {after:Array Edge} {g:Option (Nat×Bool)} {st:St} {K:St→List Nat→List Nat→Prop} (h:Op.callV op=false) :
  BU E po N draw ops lg { dst:=dst,op:=op,type:=ty,pos:=pos,after:=after,guard:=g } st K=mR E { dst:=dst,op:=op,type:=ty,pos:=pos,after:=after,guard:=g } st K:=by
 unfold BU mR
 split
 ·rename_i hop
  simp only at hop
  subst hop
  cases h
 ·rename_i hne
  split
  ·rename_i e; exact absurd e (hne _ _ _)
  ·rfl
def rL (E:dA) (po:Option D) (N:Nat) (draw:Bool) (ops:Array Oper) (lg:List eX) (f:FuncId) (args:List AV) (dst:Option Tmp) (st:St) (K:St→List Nat→List Nat→Prop) (_:pL (ops,K)):Prop :=
 nV E f args dst st K∨aKo E po N draw ops lg st f args
def aAU (E:dA) (po:Option D) (N:Nat) (draw:Bool) (ops:Array Oper) (lg:List eX) (v:AV) (args:List AV) (dst:Option Tmp) (st:St) (K:St→List Nat→List Nat→Prop) (_:pL (ops,K)):Prop:=match v with
 | .clo f caps=>rL E po N draw ops lg f (args++caps) dst st K ⟨⟩
 | .bnd f fs=>rL E po N draw ops lg f (fs++args) dst st K ⟨⟩
 | _=>False
theorem aCL {ops:Array Oper} {lg:List eX} {f:FuncId} {caps args:List AV} {dst:Option Tmp} {st:St} {K:St→List Nat→List Nat→Prop} {tk:pL (ops,K)}:aAU E po N draw ops lg (.clo f caps) args dst st K tk=rL E po N draw ops lg f (args++caps) dst st K ⟨⟩:=_root_.id rfl
theorem aCM {ops:Array Oper} {lg:List eX} {f:FuncId} {fs args:List AV} {dst:Option Tmp} {st:St} {K:St→List Nat→List Nat→Prop} {tk:pL (ops,K)}:aAU E po N draw ops lg (.bnd f fs) args dst st K tk=rL E po N draw ops lg f (fs++args) dst st K ⟨⟩:=_root_.id rfl
theorem aCN {ops:Array Oper} {lg:List eX} {dst:Option Tmp} {ty:TypeId} {pos:String} {after:Array Edge} {g:Option (Nat×Bool)} {st:St} {K:St→List Nat→List Nat→Prop} {fo:Operand} {args:Array Operand} {types:Array TypeId} :
  BU E po N draw ops lg { dst:=dst,op:=.call { callee:=.value fo,args:=args,argTypes:=types },type:=ty,pos:=pos,after:=after,guard:=g } st K=aAU E po N draw ops lg (mX E.G st.s fo) (args.toList.map (mX E.G st.s)) dst st K ⟨⟩:=by
 simp only [BU,aAU,rL]
def OV (E:dA) (N nb:Nat) (po:Option D) (c:Code) (st:St) (Q:AExit→St→Prop) (_:pL (c,Q)):Prop:=YG E N nb po c st Q
variable {nb:Nat} {st:St} {Q:AExit→St→Prop}
theorem SR:bY E N nb po .skip st Q=Q .normal st:=_root_.id rfl
theorem HG {id:Nat} {ops:List Oper} {draw:Bool}:bY E N nb po (.region id ⟨ops⟩ draw) st Q=nY E po N draw ⟨ops⟩ ops st [] fun st' lg=>RegOk N draw ⟨ops⟩ ⟨⟩ lg∧Q .normal st':=_root_.id rfl
theorem YK {x y:Code}:bY E N nb po (.seq x y) st Q=bY E N nb po x st fun e st'=>match e with
  | .normal=>bY E N nb po y st' Q
  | e=>Q e st':=_root_.id rfl
theorem SS {c:Operand} {x y:Code}:bY E N nb po (.cond c x y) st Q=RW ((mX E.G st.s c)) (bY E N nb po x st Q) (bY E N nb po y st Q) ⟨⟩:=_root_.id rfl
theorem OW {id:Nat} {c:Code}:bY E N nb po (.block id c) st Q=bY E N nb po c st fun e st'=>match e with
  | .exit id'=>if id'=id then Q .normal st' else Q (.exit id') st'
  | e=>Q e st':=_root_.id rfl
theorem ST {id:Nat}:bY E N nb po (.exit id) st Q=Q (.exit id) st:=_root_.id rfl
theorem YL:bY E N nb po .ret st Q=Q .ret st:=_root_.id rfl
theorem OX {c:Code}:bY E N nb po (.loop c) st Q=OV E N nb po c st Q ⟨⟩:=_root_.id rfl
end
theorem iR {E:dA} (hmix:E.P.follows .mixedOrders=true) {N nb:Nat} (hN:N≤aB) {po:Option D} {c:Code} {st:St} {Q:AExit→St→Prop} {t:pL (c,Q)} {ι:Type} (F:ι→St) (I:ι→Prop) (meas:ι→Nat) (i0:ι) (hi:I i0) (h0:Sub E N nb st (F i0))
  (round:∀ i,I i→bY E N nb po c (F i) fun e st'=>match e with
   | .normal=>DX E N nb F I meas i st' ⟨⟩
   | e=>Q e st'):OV E N nb po c st Q t :=
 aKq hmix hN F I meas i0 hi h0 fun i hI=>gA c _ _ _ (fun e s hh=>by
  cases e with
  | normal=>exact hh
  | exit id=>exact hh
  | ret=>exact hh) (round i hI)
theorem aC {E:dA} {po:Option D} {N:Nat} {draw:Bool} {ops:Array Oper} {lg:List eX} {f:FuncId} {args:List AV} {dst:Option Tmp} {st:St} {K:St→List Nat→List Nat→Prop} {t:pL (ops,K)} (h:jU E f args dst st K ⟨⟩):rL E po N draw ops lg f args dst st K t:=by
 unfold jU at h
 exact .inl h
theorem DT {E:dA} {v:D} {N:Nat} {draw:Bool} {ops:Array Oper} {lg:List eX} {f:FuncId} {args xs:List AV} {B:List Blk} {dst:Option Tmp} {st:St} {K:St→List Nat→List Nat→Prop} {t:pL (ops,K)} (ks:List Nat) (h:CfX sC E f xs B (.d v) (gN B.length)) (nd:ks.Nodup)
  (hlive:∀ n∈ks,(st.b n).live=true) (hb:(bE ks st.b).map (·.1)=B) (hx:(fN ks st.b args).1=xs) (hr:aCF E N draw ops lg st (aT ks st.b args++ks)):rL E (some v) N draw ops lg f args dst st K t:=by
 have hl:B.length=ks.length:=by rw [← hb]; simp [bE]
 have hfr:∀ k∈aT ks st.b args,k∈aT ks st.b args++ks:=fun k hk=>List.mem_append_left _ hk
 have hks:∀ k∈ks,k∈aT ks st.b args++ks:=fun k hk=>List.mem_append_right _ hk
 generalize ht:aT ks st.b args++ks=t at hfr hks hr
 have e1:fN ks (bM t st.b) args=fN ks st.b args:=gU _ fun k hk=>hfr k (List.mem_append_left _ hk)
 have e2:bE ks (bM t st.b)=bE ks st.b:=by
  unfold bE
  apply List.map_congr_left
  intro n hn
  have hb:bM t st.b n=st.b n:=by simp [bM,hks n hn]
  rw [hb]
  have hall:∀ k∈(qG (kY ks) st.b true (st.b n)).2,k∈t:=fun k hk=>hfr k (List.mem_append_right _ (by
   simp only [bE,List.mem_flatMap,List.mem_map]
   exact ⟨_,⟨n,hn,rfl⟩,hk⟩))
  exact BJ hall
 refine .inr ⟨v,t,ks,0,gN B.length,rfl,⟨nd,fun n hn=>?_,by simp [gN,hl],fun j hj=>?_,?_,false,?_⟩,hr⟩
 ·rw [show bM t st.b n=st.b n from by simp [bM,hks n hn]]; exact hlive n hn
 ·simp [gN,hl] at hj
 ·simp [gN,hl]
 ·rw [show (fL (kY ks) (bM t st.b) false args).1=xs from by rw [← hx,← e1]; rfl,e2,hb]
  exact h
theorem aM {E:dA} {v:D} {N:Nat} {draw:Bool} {ops:Array Oper} {lg:List eX} {f:FuncId} {args xs:List AV} {B:List Blk} {dst:Option Tmp} {st:St} {K:St→List Nat→List Nat→Prop} {t:pL (ops,K)} (ks:List Nat) (h:CfX sC E f xs B (.d v) (gN B.length)) (nd:ks.Nodup)
  (hlive:∀ n∈ks,(st.b n).live=true) (hb:(bE ks st.b).map (·.1)=B) (hx:(fN ks st.b args).1=xs) (hr:XZ N draw ops lg (aT ks st.b args++ks)=true):rL E (some v) N draw ops lg f args dst st K t :=
 DT ks h nd hlive hb hx (.inl hr)
theorem SU {E:dA} {v:D} {N:Nat} {ops:Array Oper} {lg:List eX} {f:FuncId} {args xs:List AV} {B:List Blk} {dst:Option Tmp} {st:St} {K:St→List Nat→List Nat→Prop} {t:pL (ops,K)} (ks:List Nat) (j:Nat) {oj:Oper} {w:AV} (h:CfX sC E f xs B (.d v) (gN B.length)) (nd:ks.Nodup)
  (hlive:∀ n∈ks,(st.b n).live=true) (hb:(bE ks st.b).map (·.1)=B) (hx:(fN ks st.b args).1=xs) (hj:ops[j]?=some oj) (hg:oj.guard=none) (he:zK E.P (mX E.G st.s) oj (bM (oE (mX E.G st.s) oj) st.b)=some (w,[]))
  (hr:YE N ops lg (aT ks st.b args++ks) j (oE (mX E.G st.s) oj)=true):rL E (some v) N true ops lg f args dst st K t :=
 DT ks h nd hlive hb hx (.inr ⟨rfl,j,oj,_,_,hj,.inl ⟨by simp [eK,hg],w,[],.inl he,by simp,rfl,rfl⟩,hr⟩)
attribute [simp ↓] aCJ YJ SQ aCN aCK SR HG YK SS OW ST YL OX
theorem YM {x0}:Op.callV (.move x0)=false:=_root_.id rfl
theorem OY {x0}:Op.callV (.assign x0)=false:=_root_.id rfl
theorem YN {x0} {x1} {x2}:Op.callV (.pick x0 x1 x2)=false:=_root_.id rfl
theorem SV {x0}:Op.callV (.alloc x0)=false:=_root_.id rfl
theorem aCO {x0} {x1}:Op.callV (.box x0 x1)=false:=_root_.id rfl
theorem SW {x0} {x1}:Op.callV (.build x0 x1)=false:=_root_.id rfl
theorem BV {x0} {x1} {x2}:Op.callV (.buildSlice x0 x1 x2)=false:=_root_.id rfl
theorem OZ {x0} {x1} {x2} {x3}:Op.callV (.insert x0 x1 x2 x3)=false:=_root_.id rfl
theorem YO {x0} {x1}:Op.callV (.load x0 x1)=false:=_root_.id rfl
theorem SX {x0} {x1} {x2}:Op.callV (.store x0 x1 x2)=false:=_root_.id rfl
theorem SY {x0}:Op.callV (.ready x0)=false:=_root_.id rfl
theorem SZ {x0}:Op.callV (.waits x0)=false:=_root_.id rfl
theorem HH {x0}:Op.callV (.nilCheck x0)=false:=_root_.id rfl
theorem TA {x0} {x1} {x2} {x3} {x4}:Op.callV (.binOp x0 x1 x2 x3 x4)=false:=_root_.id rfl
theorem YP {x0} {x1} {x2}:Op.callV (.unOp x0 x1 x2)=false:=_root_.id rfl
theorem LE {x0} {x1} {x2}:Op.callV (.convert x0 x1 x2)=false:=_root_.id rfl
theorem qI {x0} {x1}:Op.callV (.sliceToArrayPointer x0 x1)=false:=_root_.id rfl
theorem xE {x0} {x1}:Op.callV (.makeInterface x0 x1)=false:=_root_.id rfl
theorem HI {x0} {x1} {x2}:Op.callV (.makeFunc x0 x1 x2)=false:=_root_.id rfl
theorem LF {x0} {x1}:Op.callV (.makeMap x0 x1)=false:=_root_.id rfl
theorem HJ {x0} {x1}:Op.callV (.makeChan x0 x1)=false:=_root_.id rfl
theorem EL {x0} {x1} {x2}:Op.callV (.makeSlice x0 x1 x2)=false:=_root_.id rfl
theorem TB {x0} {x1} {x2} {x3} {x4}:Op.callV (.slice x0 x1 x2 x3 x4)=false:=_root_.id rfl
theorem EM {x0} {x1} {x2}:Op.callV (.fieldAddr x0 x1 x2)=false:=_root_.id rfl
theorem TC {x0} {x1} {x2}:Op.callV (.field x0 x1 x2)=false:=_root_.id rfl
theorem EN {x0} {x1} {x2}:Op.callV (.indexAddr x0 x1 x2)=false:=_root_.id rfl
theorem TD {x0} {x1} {x2}:Op.callV (.index x0 x1 x2)=false:=_root_.id rfl
theorem PA {x0} {x1} {x2} {x3}:Op.callV (.lookup x0 x1 x2 x3)=false:=_root_.id rfl
theorem EO {x0} {x1} {x2} {x3}:Op.callV (.mapUpdate x0 x1 x2 x3)=false:=_root_.id rfl
theorem HK {x0} {x1} {x2}:Op.callV (.mapEntry x0 x1 x2)=false:=_root_.id rfl
theorem BW {x0} {x1} {x2} {x3}:Op.callV (.entryStore x0 x1 x2 x3)=false:=_root_.id rfl
theorem TE {x0} {x1}:Op.callV (.range x0 x1)=false:=_root_.id rfl
theorem YQ {x0} {x1}:Op.callV (.next x0 x1)=false:=_root_.id rfl
theorem TF {x0}:Op.callV (.entry x0)=false:=_root_.id rfl
theorem BX {x0} {x1} {x2} {x3}:Op.callV (.typeAssert x0 x1 x2 x3)=false:=_root_.id rfl
theorem LG {x0} {x1}:Op.callV (.extract x0 x1)=false:=_root_.id rfl
theorem aEK {x0}:Op.callV (.go x0)=false:=_root_.id rfl
theorem TG {x0}:Op.callV (.defer x0)=false:=_root_.id rfl
theorem TH {x0}:Op.callV (.panic x0)=false:=_root_.id rfl
theorem YR {x0} {x1}:Op.callV (.send x0 x1)=false:=_root_.id rfl
theorem YS {x0} {x1} {x2}:Op.callV (.recv x0 x1 x2)=false:=_root_.id rfl
theorem PB {x0} {x1}:Op.callV (.select x0 x1)=false:=_root_.id rfl
theorem aCP {b:Builtin} {args:Array Operand} {types:Array TypeId}:Op.callV (.call { callee:=.builtin b,args:=args,argTypes:=types })=false:=_root_.id rfl
attribute [simp] YM OY YN SV aCO SW BV OZ YO SX SY SZ HH TA YP LE qI xE HI LF HJ EL TB EM TC EN TD PA EO HK BW TE YQ TF BX LG aEK TG TH YR YS PB aCP
attribute [simp] aCL aCM aCH aCI Out.po
attribute [irreducible] OV rL
theorem hZ {E:dA} {po:Option D} {N:Nat} {draw:Bool} {ops:Array Oper} {lg:List eX} {f:FuncId} {args xs:List AV} {B B':List Blk} {dst:Option Tmp} {st:St} {K:St→List Nat→List Nat→Prop} {t:pL (ops,K)} {y:AV} (h:Cf E f xs B y B')
  (hK:K (st.put dst (iA [1000000] 0 y) (eC st.b (aT [1000000] st.b args)++dF [1000000] 0 B')) (aT [1000000] st.b args++[1000000]++(dF [1000000] 0 B').map (·.1)) (aT [1000000] st.b args++(dF [1000000] 0 B').map (·.1)))
  (hlen:B'.length=[1000000].length:=by simp) (hlive:∀ n∈[1000000],(st.b n).live=true:=by simp) (hb:(bE [1000000] st.b).map (·.1)=B:=by simp) (hx:(fN [1000000] st.b args).1=xs:=by simp):rL E po N draw ops lg f args dst st K t:=aC (bD [1000000] h hlen (by simp) hlive hb hx hK)
theorem pZ {E:dA} {v:D} {N:Nat} {draw:Bool} {ops:Array Oper} {lg:List eX} {f:FuncId} {args xs:List AV} {B:List Blk} {dst:Option Tmp} {st:St} {K:St→List Nat→List Nat→Prop} {t:pL (ops,K)} (h:CfX sC E f xs B (.d v) (gN B.length))
  (hlive:∀ n∈[1000000],(st.b n).live=true:=by simp) (hb:(bE [1000000] st.b).map (·.1)=B:=by simp) (hx:(fN [1000000] st.b args).1=xs:=by simp) (hr:XZ N draw ops lg (aT [1000000] st.b args++[1000000])=true:=by kernel_rfl):rL E (some v) N draw ops lg f args dst st K t:=aM [1000000] h (by simp) hlive hb hx hr
theorem Mem.shift {E:dA} {w w1:World} {h:Gh} {B:List Blk} (m:Mem (cK E w h B) (bL B) w h) (hsz:w.heap.size≤w1.heap.size) (hh:∀ k,k<w.heap.size→w1.heap[k]?=w.heap[k]?) (dfr:List Deferred) :
  Mem { cK E w1 h B with dfr:=dfr } (bL B) w1 h:=by
 have hlt:∀ n l,(bL B n).live=true→h.L n=some l→l.nul=false→l.blk<w.heap.size:=fun n l hl hL hn=>by
  obtain ⟨o,_,ho⟩:=lR (m.blks n) hl hL hn
  exact oR ho
 refine ⟨fun n=>iE (m.blks n) (.refl h) id (fun l hl hL hn=>hh _ (hlt n l hl hL hn)) (fun _ _ _ _ _ _ e=>e),fun b o v e=>?_,m.glob,m.apart,fun n l hl hL hn=>?_,Nat.le_refl _,fun _ _ _=>rfl,fun _ _ _ e=>e,fun _ _ _ _ _ e=>e,fun _ _ _ e=>e,rfl,rfl,rfl,fun g cs hg=>?_⟩
 ·exact (World.cell?_of_block (w:=w) (hh b (HB m e))).trans (m.con b o v e)
 ·rcases m.own n l hl hL hn with c | c
  ·exact absurd (hlt n l hl hL hn) (by have:w.heap.size≤l.blk:=c; omega)
  ·exact .inr c
 ·obtain ⟨k1,k2,a,ety,z,k3,k4⟩:=m.know g cs hg
  exact ⟨Nat.lt_of_lt_of_le k1 hsz,k2,a,ety,z,(hh g k1).trans k3,k4⟩
theorem Mem.unshift {E:dA} {w w1 w' w2:World} {h h':Gh} {B:List Blk} {bl:Nat→Blk} (hB:∀ b∈B,b.live=true) (m:Mem (cK E w h B) (bL B) w h) (hsz:w.heap.size≤w1.heap.size) (hh:∀ k,k<w.heap.size→w1.heap[k]?=w.heap[k]?)
  {dfr:List Deferred} (m':Mem { cK E w1 h B with dfr:=dfr } bl w' h') (hw:∀ k,k<w.heap.size∨w1.heap.size≤k→w2.heap[k]?=w'.heap[k]?) (hs2:w'.heap.size≤w2.heap.size)
  (hos:w2.os=w'.os∧w2.tape=w'.tape∧w2.output=w'.output) (hos1:w1.os=w.os∧w1.tape=w.tape∧w1.output=w.output):Mem (cK E w h B) bl w2 h':=by
 have hb:∀ b,b∈mE h B→b<w.heap.size:=fun b hb=>by
  obtain ⟨j,l,hj,hl,hn,rfl⟩:=iM.1 hb
  have e:bL B (aB+j)=B[j]:=by
   unfold bL
   rw [if_pos (Nat.le_add_right _ _),Nat.add_sub_cancel_left,List.getElem?_eq_getElem hj]; rfl
  obtain ⟨o,_,ho⟩:=lR (m.blks (aB+j)) (by rw [e]; exact hB _ (List.getElem_mem hj)) hl hn
  exact oR ho
 have hout:∀ n l,(bl n).live=true→h'.L n=some l→l.nul=false→l.blk<w.heap.size∨w1.heap.size≤l.blk:=fun n l hl hL hn=>by
  rcases m'.own n l hl hL hn with c | c
  ·exact .inr c
  ·exact .inl (hb _ c)
 refine ⟨fun n=>iE (m'.blks n) (.refl h') id (fun l hl hL hn=>hw _ (hout n l hl hL hn)) (fun _ _ _ _ _ _ e=>e),fun b o v e=>?_,m'.glob,m'.apart,fun n l hl hL hn=>?_,?_,fun b hlt hnb=>?_,m'.mext,fun b hlt hnb o v e=>?_,m'.lkeep,?_,?_,?_,m.know⟩
 ·by_cases c:b<w.heap.size∨w1.heap.size≤b
  ·exact (World.cell?_of_block (w:=w') (hw b c)).trans (m'.con b o v e)
  ·have hlt:b<w1.heap.size:=by omega
   have e0:=m'.mold b hlt (fun hm=>c (.inl (hb b hm))) o v e
   exact absurd (HB m e0) (by omega)
 ·rcases m'.own n l hl hL hn with c | c
  ·exact .inl (Nat.le_trans hsz c)
  ·exact .inr c
 ·exact Nat.le_trans hsz (Nat.le_trans m'.size hs2)
 ·have hlt':b<w.heap.size:=hlt
  exact (hw b (.inl hlt')).trans ((m'.frame b (Nat.lt_of_lt_of_le hlt' hsz) hnb).trans (hh b hlt'))
 ·have hlt':b<w.heap.size:=hlt
  exact m'.mold b (Nat.lt_of_lt_of_le hlt' hsz) hnb o v e
 ·exact hos.1.trans (m'.os.trans hos1.1)
 ·exact hos.2.1.trans (m'.tape.trans hos1.2.1)
 ·exact hos.2.2.trans (m'.output.trans hos1.2.2)
theorem ZG {E:dA} (hmix:E.P.follows .mixedOrders=true) {N nb:Nat} (hN:N≤aB) {po:Option D} {c:Code} {st st':St} (h:bY E N nb po c st fun e s=>match e with
   | .normal=>Sub E N nb s st'
   | _=>False) {C:kD} (hP:C.P=E.P) (hG:C.G=E.G) (hin:∀ j,j<nb→∃ l,C.h0.L (aB+j)=some l) {a:Act} {w:World} (inv:Inv C N nb st a w) {R:Exit→Act→World→Prop}
  (hR:∀ a' w',Inv C N nb st' a' w'→R .normal a' w') (hpan:∀ pv,po=some pv→aCE C nb pv R):c.wp E.P R a w :=
 dN hmix hN c st _ h C hP hG hin a w inv R (fun e s a' w' hq i=>by
  cases e with
  | normal=>exact hR a' w' (hq C hP hG a' w' i)
  | exit id=>exact hq.elim
  | ret=>exact hq.elim) hpan
theorem ZH {E:dA} {C:kD} (hP:C.P=E.P) (hG:C.G=E.G) {N nb:Nat} (hin:∀ j,j<nb→∃ l,C.h0.L (aB+j)=some l) {ops:Array Oper} {i:Nat} {o:Oper} (hi:ops[i]?=some o) {st:St} {t:List Nat} {a:Act} {w:World} {pv:D}
  (inv:Inv C N nb st a w) (hs:PanStep E ops o st pv t) {K:Act→World→Prop} {Q:Exit→Act→World→Prop} (hQ:∀ v w' h' h0,(∀ i,aG h0 (a.tmps.getD i undef) (st.s i))→a.defers=C.dfr→aU h'.μ v pv→Mem C (bL (gN nb)) w' h'→Q (.panic [{ v,recovered:=false }]) a w'):wpOp E.P ops Q i K a w:=by
 obtain ⟨hhi,hdef,hsz,h,hsl,m⟩:=inv
 obtain ⟨hw,c,fo,f,xs,ks,d,B',hop,hcal,hfo,ok⟩:=hs
 unfold wpOp
 simp only [hi]
 rw [nN hsl hw]
 simp only [if_true]
 left
 have hρ:∀ x,aG h (a.eval x) (mX E.G st.s x):=fun x=>by rw [← hG]; exact vB m hsl x
 have hfv:=hρ fo
 obtain ⟨vs,fst,carr,hfv,hra,rfl⟩:∃ (vs fst carr:List Value),a.eval fo=.func (.func f) ⟨fst⟩ ⟨carr⟩∧bB h vs xs∧vs=fst++c.args.toList.map a.eval++carr:=by
  cases hv:mX E.G st.s fo <;> rw [hv] at hfo hfv <;> simp only [tB,Option.some.injEq,Prod.mk.injEq,reduceCtorEq] at hfo
  ·obtain ⟨rfl,rfl⟩:=hfo
   simp only [aG] at hfv
   obtain ⟨carr,hfv,hcr⟩:=hfv
   exact ⟨_,[],carr,hfv,fC (jS hρ _) hcr,rfl⟩
  ·obtain ⟨rfl,rfl⟩:=hfo
   simp only [aG] at hfv
   obtain ⟨carr,hfv,hcr⟩:=hfv
   exact ⟨_,carr,[],hfv,fC hcr (jS hρ _),by simp⟩
 have hrun:(execOp a.eval o).run E.P w=.ok (.enter f ⟨fst++c.args.toList.map a.eval++carr⟩) w:=by
  have he:=wH (Exists.elim ok.cf fun _ h=>h.1) (⟨fst++c.args.toList.map a.eval++carr⟩:Array Value) w
  rw [← he]
  obtain ⟨dst,op,type,pos,after,guard⟩:=o
  simp only at hop
  subst hop
  obtain ⟨callee,args,argTypes⟩:=c
  simp only at hcal
  subst hcal
  simp only [execOp,resolve,hfv,Deferred.ofValue,Sem.run_bind,Sem.run_pure,Result.andThen_ok,invoke]
  congr 2
  apply Array.ext'
  simp
 have hcall:=DR hP hG (blr:=bM t st.b) (fun n hn=>(cN (t:=t) (bl:=st.b) rfl hn).symm) m hra ok
 unfold Oper.wp
 rw [hrun]
 simp only [Oper.upon]
 rw [← hP]
 refine hcall.mono fun e w'=>?_
 rintro ⟨v,h',rfl,le,m',rv⟩
 simp only [sC]
 refine hQ v w' _ h hsl hdef ?_ (HD hhi hin m')
 simpa only [iA,jW,aG] using rv
theorem MI {E:dA} {C:kD} (hP:C.P=E.P) (hG:C.G=E.G) {N nb:Nat} (hN:N≤aB) (hin:∀ j,j<nb→∃ l,C.h0.L (aB+j)=some l) {ops:Array Oper} (hd:∀ (i:Nat) (o:Oper),ops[i]?=some o→∀ d,o.dst=some d→d<N) {inf:Nat→eX} {Q:Exit→Act→World→Prop}
  {p:Nat} {y:Oper} (hy:ops[p]?=some y) {sp:St} {pv:D} {ty:List Nat} (hpan:PanStep E ops y sp pv ty) (hQ:∀ a v w' h' h0,(∀ i,aG h0 (a.tmps.getD i undef) (sp.s i))→a.defers=C.dfr→aU h'.μ v pv→Mem C (bL (gN nb)) w' h'→Q (.panic [{ v,recovered:=false }]) a w')
  (rest:List Nat):∀ (l:List Nat) (s:St) (a:Act) (w:World),Path E ops inf l s sp→Inv C N nb s a w→wpOps E.P ops Q (l++p::rest) a w
 | [],s,a,w,hp,inv=>by
   simp only [Path] at hp; subst hp
   rw [List.nil_append,wpOps_cons]
   exact ZH hP hG hin hy inv hpan (hQ a)
 | i::l,s,a,w,hp,inv=>by
   obtain ⟨o,s1,ho,hs,hp'⟩:=hp
   rw [List.cons_append,wpOps_cons]
   exact mZ hP hG hN ho (hd i o ho) inv hs fun a' w' inv'=>MI hP hG hN hin hd hy hpan hQ rest l s1 a' w' hp' inv'
def MJ (E:dA) (ops:Array Oper) (pv:D) (K:St→Prop):List Oper→St→List eX→Prop
 | [],_,_=>False
 | o::rest,st,lg=>(eK ops o st.s=some true∧mR E o st fun st' t wn=>MJ E ops pv K rest st' (lg++[(t,wn)]))∨(K st∧∃ t,PanStep E ops o st pv t)
theorem HP {E:dA} {ops:Array Oper} {pv:D} {K:St→Prop}:∀ (rest:List Oper) (st:St) (lg:List eX),MJ E ops pv K rest st lg→(∀ i,rest[i]?=ops[lg.length+i]?) →
  ∃ (y:Oper) (sp:St) (ext:List eX) (t:List Nat),ops[lg.length+ext.length]?=some y∧K sp∧PanStep E ops y sp pv t∧∀ inf:Nat→eX,(∀ i e,ext[i]?=some e→inf (lg.length+i)=e)→Path E ops inf (List.range' lg.length ext.length) st sp
 | [],st,lg,h,_=>h.elim
 | o::rest,st,lg,h,hidx=>by
   have ho:ops[lg.length]?=some o:=by simpa using (hidx 0).symm
   have hidx':∀ e i,rest[i]?=ops[(lg++[e]).length+i]?:=fun e i=>by
    have:=hidx (i+1)
    simp only [List.getElem?_cons_succ] at this
    rw [this]; congr 1; simp; omega
   rcases h with ⟨hw,h⟩ | ⟨hk,t,h⟩
   ·obtain ⟨s1,t,wn,hs,hr⟩:=zA hw h
    obtain ⟨y,sp,ext,t',h1,h2,h3,h4⟩:=HP rest s1 _ hr (hidx' _)
    refine ⟨y,sp,(t,wn)::ext,t',by rw [← h1]; congr 1; simp; omega,h2,h3,fun inf hinf=>?_⟩
    simp only [List.length_cons,List.range'_succ]
    have h0:=hinf 0 (t,wn) rfl
    simp only [Nat.add_zero] at h0
    refine ⟨o,s1,ho,by rw [h0]; exact hs,?_⟩
    have:=h4 inf fun i e he=>by
     have:=hinf (i+1) e (by simpa using he)
     rw [← this]; congr 1; simp; omega
    simpa using this
   ·exact ⟨o,st,[],t,by simpa using ho,hk,h,fun inf _=>rfl⟩
theorem HQ {E:dA} {N nb:Nat} (hN:N≤aB) {pv:D} {K:St→Prop} {id:Nat} {ops:Array Oper} {st:St} (h:MJ E ops pv K ops.toList st []) (hd:(ops.toList.all fun o=>match o.dst with | some d=>decide (d<N) | none=>true)=true)
  {C:kD} (hP:C.P=E.P) (hG:C.G=E.G) (hin:∀ j,j<nb→∃ l,C.h0.L (aB+j)=some l) {a:Act} {w:World} (inv:Inv C N nb st a w) {R:Exit→Act→World→Prop}
  (hQ:∀ a v w' h' h0 sp,K sp→(∀ i,aG h0 (a.tmps.getD i undef) (sp.s i))→a.defers=C.dfr→aU h'.μ v pv→Mem C (bL (gN nb)) w' h'→R (.panic [{ v,recovered:=false }]) a w'):(Code.region id ops false).wp E.P R a w:=by
 obtain ⟨y,sp,ext,t,hy,hK,hpan,hpath⟩:=HP _ _ _ h (fun i=>by simp)
 simp only [List.length_nil,Nat.zero_add] at hy hpath
 have hp:=hpath (fun i=>ext.getD i ([],[])) (fun i e he=>by simp [he])
 have hps:ext.length<ops.size:=(Array.getElem?_eq_some_iff.1 hy).1
 have hd':∀ (i:Nat) (o:Oper),ops[i]?=some o→∀ d,o.dst=some d→d<N:=fun i o ho d hdd=>by
  rw [List.all_eq_true] at hd
  have:=hd o (by simpa using Array.mem_of_getElem? ho)
  simpa [hdd] using this
 refine wp_region ?_
 have hl:List.range ops.size=List.range' 0 ext.length++ext.length::List.range' (ext.length+1) (ops.size - ext.length - 1):=by
  rw [List.range_eq_range',show ops.size=ext.length+(1+(ops.size - ext.length - 1)) from by omega,← List.range'_append_1]
  congr 1
  rw [Nat.zero_add,Nat.add_comm 1,List.range'_succ]
  congr 2
  omega
 rw [hl]
 exact MI hP hG hN hin hd' hy hpan (fun a v w' h' h0 hs hdf hr hm=>hQ a v w' h' h0 sp hK hs hdf hr hm) _ _ st a w hp inv
theorem xU {E:dA} {ops:Array Oper} {pv:D} {K:St→Prop} {o:Oper} {rest:List Oper} {st:St} {lg:List eX} (hg:o.guard=none) (h:mR E o st fun st' t wn=>MJ E ops pv K rest st' (lg++[(t,wn)])):MJ E ops pv K (o::rest) st lg :=
 .inl ⟨by simp [eK,hg],h⟩
theorem HR {E:dA} {v:D} {ops:Array Oper} {K:St→Prop} {lg:List eX} {rest:List Oper} {dst:Option Tmp} {ty:TypeId} {pos:String} {after:Array Edge} {fo:Operand} {args:Array Operand} {types:Array TypeId} {st:St}
  {f:FuncId} {as xs:List AV} {B:List Blk} (hK:K st) (hc:tB (mX E.G st.s fo) (args.toList.map (mX E.G st.s))=some (f,as)) (ks:List Nat) (h:CfX sC E f xs B (.d v) (gN B.length)) (nd:ks.Nodup)
  (hlive:∀ n∈ks,(st.b n).live=true) (hb:(bE ks st.b).map (·.1)=B) (hx:(fN ks st.b as).1=xs) :
  MJ E ops v K ({ dst:=dst,op:=.call { callee:=.value fo,args:=args,argTypes:=types },type:=ty,pos:=pos,after:=after,guard:=none }::rest) st lg:=by
 have hl:B.length=ks.length:=by rw [← hb]; simp [bE]
 have hfr:∀ k∈aT ks st.b as,k∈aT ks st.b as++ks:=fun k hk=>List.mem_append_left _ hk
 have hks:∀ k∈ks,k∈aT ks st.b as++ks:=fun k hk=>List.mem_append_right _ hk
 generalize ht:aT ks st.b as++ks=t at hfr hks
 have e1:fN ks (bM t st.b) as=fN ks st.b as:=gU _ fun k hk=>hfr k (List.mem_append_left _ hk)
 have e2:bE ks (bM t st.b)=bE ks st.b:=by
  unfold bE
  apply List.map_congr_left
  intro n hn
  have hb:bM t st.b n=st.b n:=by simp [bM,hks n hn]
  rw [hb]
  have hall:∀ k∈(qG (kY ks) st.b true (st.b n)).2,k∈t:=fun k hk=>hfr k (List.mem_append_right _ (by
   simp only [bE,List.mem_flatMap,List.mem_map]
   exact ⟨_,⟨n,hn,rfl⟩,hk⟩))
  exact BJ hall
 refine .inr ⟨hK,t,by simp [eK],_,fo,f,as,ks,0,gN B.length,rfl,rfl,hc,nd,fun n hn=>?_,by simp [gN,hl],fun j hj=>?_,?_,false,?_⟩
 ·rw [show bM t st.b n=st.b n from by simp [bM,hks n hn]]; exact hlive n hn
 ·simp [gN,hl] at hj
 ·simp [gN,hl]
 ·rw [show (fL (kY ks) (bM t st.b) false as).1=xs from by rw [← hx,← e1]; rfl,e2,hb]
  exact h
def jN:Nat→Code→Code×Code
 | k+1,.seq x y=>(.seq x (jN k y).1,(jN k y).2)
 | _,c=>(.skip,c)
@[simp] theorem eS (c:Code):jN 0 c=(.skip,c):=by cases c <;> rfl
@[simp] theorem fH (k:Nat) (x y:Code):jN (k+1) (.seq x y)=(.seq x (jN k y).1,(jN k y).2):=rfl
theorem AwpP.mono {E:dA} {N nb:Nat} {po:Option D} {c:Code} {st:St} {Q Q':AExit→St→Prop} (h:AwpP E N nb po c st Q) (hq:∀ e s,Q e s→Q' e s):AwpP E N nb po c st Q' :=
 fun C hP hG hin a w inv R hR hQ=>h C hP hG hin a w inv R (fun e s a' w' h' i=>hR e s a' w' (hq e s h') i) hQ
theorem AwpP.sub {E:dA} {N nb:Nat} {po:Option D} {c:Code} {st st':St} {Q:AExit→St→Prop} (hs:Sub E N nb st st') (h:AwpP E N nb po c st' Q):AwpP E N nb po c st Q :=
 fun C hP hG hin a w inv R hR hQ=>h C hP hG hin a w (hs C hP hG a w inv) R hR hQ
theorem LT {E:dA} (hmix:E.P.follows .mixedOrders=true) {N nb:Nat} (hN:N≤aB) {po:Option D}:∀ (k:Nat) (c:Code) (st:St) (Q:AExit→St→Prop),bY E N nb po (jN k c).1 st (fun e s=>match e with
   | .normal=>AwpP E N nb po (jN k c).2 s Q
   | e=>Q e s)→AwpP E N nb po c st Q
 | 0,c,st,Q,h=>by rw [eS] at h; exact h
 | k+1,c,st,Q,h=>by
   cases c with
   | seq x y =>
     intro C hP hG hin a w inv R hR hQ
     exact wp_seq (dN hmix hN x st _ h C hP hG hin a w inv _ (fun e st' a' w' hq inv'=>by
      cases e with
      | normal=>exact LT hmix hN k y st' Q hq C hP hG hin a' w' inv' R hR hQ
      | exit id=>exact hR _ st' a' w' hq inv'
      | ret=>exact hR _ st' a' w' hq inv') (fun pv e v a' w' g hd hr m=>hQ pv e v a' w' g hd hr m))
   | _=>exact h
theorem kQ {E:dA} (hmix:E.P.follows .mixedOrders=true) {N nb:Nat} (hN:N≤aB) {po:Option D} {ι:Type} (F:ι→St) (I:ι→Prop) (k:Nat) {c:Code} {st:St} {Q:AExit→St→Prop}
  (h1:bY E N nb po (jN k c).1 st fun e s=>match e with
   | .normal=>∃ i,I i∧Sub E N nb s (F i)
   | _=>False) (h2:∀ i,I i→AwpP E N nb po (jN k c).2 (F i) Q):AwpP E N nb po c st Q :=
 LT hmix hN k c st Q (gA _ _ _ _ (fun e s hh=>by
  cases e with
  | normal=>obtain ⟨i,hi,hs⟩:=hh; exact (h2 i hi).sub hs
  | exit id=>exact hh.elim
  | ret=>exact hh.elim) h1)
theorem XC {E:dA} (hmix:E.P.follows .mixedOrders=true) {f:FuncId} {fn:Func} {c:Code} (hf:E.P.funcs[f]?=some fn) (hbody:fn.body=some c) (hent:eR E.P f=true) (hN:fn.ntmps≤aB)
  {xs:List AV} {B B':List Blk} {y:AV} (hx:xs.length≤fn.ntmps)
  (hB0:∀ b∈B,b ≠ .free)
  (h:AwpP E fn.ntmps B.length none c (begin xs B) fun e st=>match e with
   | .exit _=>False
   | _=>EndsS E fn B.length y B' st):Cf E f xs B y B':=by
 refine ⟨hent,fun w g vs hr m=>?_⟩
 have hl:=(bV.1 hr).1
 refine calls_of_wp hf hbody ?_
 have inv:Inv (cK E w g B) fn.ntmps B.length (begin xs B) { tmps:=⟨vs⟩++Array.replicate (fn.ntmps - (⟨vs⟩:Array Value).size) undef,defers:=[] } w:=by
  refine ⟨fun n l hn hl'=>?_,rfl,by simp; omega,g,fun i=>?_,m⟩
  ·rcases Nat.lt_or_ge n (aB+B.length) with c | c
   ·exact c
   ·have:=m.blks n
    unfold bL at this
    rw [if_pos hn,List.getElem?_eq_none (by omega)] at this
    have hz:g.L n=none:=this
    have:(cK E w g B).h0.L n=g.L n:=rfl
    rw [this,hz] at hl'; cases hl'
  ·simp only [begin]
   by_cases hi:i<vs.length
   ·have hx':i<xs.length:=by omega
    obtain ⟨v,hv,hrv⟩:=(bV.1 hr).2 i _ (List.getElem?_eq_getElem hx')
    rw [List.getElem?_eq_getElem hx',Option.getD_some]
    have:((⟨vs⟩:Array Value)++Array.replicate (fn.ntmps - (⟨vs⟩:Array Value).size) undef).getD i undef=v:=by
     simp only [Array.getD_eq_getD_getElem?]
     rw [Array.getElem?_append_left (by simpa using hi)]
     simp [hv]
    rw [this]; exact hrv
   ·rw [List.getElem?_eq_none (by omega),Option.getD_none]
    simp only [aG,Array.getD_eq_getD_getElem?]
    rw [Array.getElem?_append_right (by simpa using hi)]
    simp only [Array.getElem?_replicate]
    split <;> rfl
 have hin:∀ j,j<B.length→∃ l,(cK E w g B).h0.L (aB+j)=some l:=fun j hj=>by
  have hb:=m.blks (aB+j)
  have e:bL B (aB+j)=B[j]:=by
   unfold bL
   rw [if_pos (by omega),Nat.add_sub_cancel_left,List.getElem?_eq_getElem hj]; rfl
  rw [e] at hb
  have hne:=hB0 _ (List.getElem_mem hj)
  show ∃ l,g.L (aB+j)=some l
  cases hbj:B[j] <;> rw [hbj] at hb hne <;> simp only [lL] at hb
  ·exact absurd rfl hne
  ·exact hb
  ·obtain ⟨l,_,_,h1,_⟩:=hb; exact ⟨l,h1⟩
  ·obtain ⟨l,h1,_⟩:=hb; exact ⟨l,h1⟩
  ·obtain ⟨l,h1,_⟩:=hb; exact ⟨l,h1⟩
  ·obtain ⟨l,h1,_⟩:=hb; exact ⟨l,h1⟩
  ·obtain ⟨l,_,_,h1,_⟩:=hb; exact ⟨l,h1⟩
 refine h (cK E w g B) rfl rfl hin _ w inv _ (fun e st1 a' w' hq inv1=>?_) (fun pv e=>by cases e)
 have fin:EndsS E fn B.length y B' st1→a'.defers=[]∧∃ v,(results fn a'.tmps).run E.P w'=.ok v w'∧(∃ v' h',Ending.returned v=.returned v'∧aG h' v' y∧Mem (cK E w g B) (bL B') w' h'):=by
  rintro ⟨st,hsub,v,l,hv,ok,hB,hy⟩
  have inv':=hsub (cK E w g B) rfl rfl _ _ inv1
  obtain ⟨hhi,hdef,hsz,h1,hsl,m1⟩:=inv'
  obtain ⟨u,hu,ru⟩:=pM (C:=cK E w g B) rfl m1 hsl hv
  obtain ⟨h2,m2,hrep⟩:=BQ hhi m1 ok ((jW (aD l) st.b false v).2++l.flatMap (fun p=>(qG (aD l) st.b true (st.b p.2.1)).2)) (fun n hn=>by
   rcases List.mem_append.1 hn with hn | hn
   ·exact oP _ n hn
   ·obtain ⟨p,_,hp⟩:=List.mem_flatMap.1 hn
    exact nK hp) (fun p hp k hk=>List.mem_append_right _ (List.mem_flatMap.2 ⟨p,hp,hk⟩))
  refine ⟨hdef,u,hu,u,h2,rfl,?_,?_⟩
  ·rw [← hy]; exact hrep v u false (fun k hk=>List.mem_append_left _ hk) ru
  ·have e:eG l=bL B':=by
    funext n
    unfold eG
    rw [hB]
    have hinj:∀ (L:List Blk) (k n:Nat) (f:Nat→Blk),(∀ i,i<L.length→f (aB+(k+i))=.free)→bW f ((L.zipIdx k).map fun p=>(aB+p.2,p.1)) n=if aB+k≤n then (match L[n - aB - k]? with | some b=>b | none=>f n) else f n:=by
     intro L
     induction L with
     | nil=>intro k n f _; simp [bW]
     | cons b L ih =>
       intro k n f hfree
       simp only [List.zipIdx_cons,List.map_cons]
       rw [show bW f ((aB+k,b)::((L.zipIdx (k+1)).map fun p=>(aB+p.2,p.1)))=bW (dQ f (aB+k) b) ((L.zipIdx (k+1)).map fun p=>(aB+p.2,p.1)) from rfl]
       rw [ih (k+1) n _ (fun i hi=>by
        simp only [dQ]
        rw [if_neg (by omega)]
        have:=hfree (i+1) (by simp; omega)
        rwa [show k+(i+1)=k+1+i from by omega] at this)]
       by_cases c1:aB+k≤n
       ·rw [if_pos c1]
        by_cases c2:n=aB+k
        ·subst c2
         rw [if_neg (by omega)]
         simp [dQ]
        ·rw [if_pos (by omega),show n - aB - k=(n - aB - (k+1))+1 from by omega,List.getElem?_cons_succ]
         split
         ·rfl
         ·show (if n=aB+k then b else f n)=f n
          rw [if_neg c2]
       ·rw [if_neg c1,if_neg (by omega)]
        simp only [dQ]
        rw [if_neg (by omega)]
    rw [hinj B' 0 n _ (fun i _=>rfl)]
    unfold bL
    simp only [Nat.add_zero,Nat.sub_zero]
    split
    ·cases B'[n - aB]? <;> rfl
    ·rfl
   rw [← e]; exact m2
 cases e with
 | normal=>exact fin hq
 | exit id=>exact hq.elim
 | ret=>exact fin hq
theorem XD {E:dA} (hmix:E.P.follows .mixedOrders=true) {f:FuncId} {fn:Func} {c:Code} (hf:E.P.funcs[f]?=some fn) (hbody:fn.body=some c) (hent:eR E.P f=true) (hN:fn.ntmps≤aB)
  {xs:List AV} {B:List Blk} {pv:D} (hx:xs.length≤fn.ntmps) (hB:∀ b∈B,b ≠ .free)
  (h:AwpP E fn.ntmps B.length (some pv) c (begin xs B) fun _ _=>False):CfX sC E f xs B (.d pv) (gN B.length):=by
 refine ⟨hent,fun w g vs hr m=>?_⟩
 have hl:=(bV.1 hr).1
 refine calls_of_wp hf hbody ?_
 have inv:Inv (cK E w g B) fn.ntmps B.length (begin xs B) { tmps:=⟨vs⟩++Array.replicate (fn.ntmps - (⟨vs⟩:Array Value).size) undef,defers:=[] } w:=by
  refine ⟨fun n l hn hl'=>?_,rfl,by simp; omega,g,fun i=>?_,m⟩
  ·rcases Nat.lt_or_ge n (aB+B.length) with c | c
   ·exact c
   ·have:=m.blks n
    unfold bL at this
    rw [if_pos hn,List.getElem?_eq_none (by omega)] at this
    have hz:g.L n=none:=this
    have:(cK E w g B).h0.L n=g.L n:=rfl
    rw [this,hz] at hl'; cases hl'
  ·simp only [begin]
   by_cases hi:i<vs.length
   ·have hx':i<xs.length:=by omega
    obtain ⟨v,hv,hrv⟩:=(bV.1 hr).2 i _ (List.getElem?_eq_getElem hx')
    rw [List.getElem?_eq_getElem hx',Option.getD_some]
    have:((⟨vs⟩:Array Value)++Array.replicate (fn.ntmps - (⟨vs⟩:Array Value).size) undef).getD i undef=v:=by
     simp only [Array.getD_eq_getD_getElem?]
     rw [Array.getElem?_append_left (by simpa using hi)]
     simp [hv]
    rw [this]; exact hrv
   ·rw [List.getElem?_eq_none (by omega),Option.getD_none]
    simp only [aG,Array.getD_eq_getD_getElem?]
    rw [Array.getElem?_append_right (by simpa using hi)]
    simp only [Array.getElem?_replicate]
    split <;> rfl
 have hin:∀ j,j<B.length→∃ l,(cK E w g B).h0.L (aB+j)=some l:=fun j hj=>by
  have hb:=m.blks (aB+j)
  have e:bL B (aB+j)=B[j]:=by
   unfold bL
   rw [if_pos (by omega),Nat.add_sub_cancel_left,List.getElem?_eq_getElem hj]; rfl
  rw [e] at hb
  have hne:=hB _ (List.getElem_mem hj)
  show ∃ l,g.L (aB+j)=some l
  cases hbj:B[j] <;> rw [hbj] at hb hne <;> simp only [lL] at hb
  ·exact absurd rfl hne
  ·exact hb
  ·obtain ⟨l,_,_,h1,_⟩:=hb; exact ⟨l,h1⟩
  ·obtain ⟨l,h1,_⟩:=hb; exact ⟨l,h1⟩
  ·obtain ⟨l,h1,_⟩:=hb; exact ⟨l,h1⟩
  ·obtain ⟨l,h1,_⟩:=hb; exact ⟨l,h1⟩
  ·obtain ⟨l,_,_,h1,_⟩:=hb; exact ⟨l,h1⟩
 refine h (cK E w g B) rfl rfl hin _ w inv _ (fun e st a' w' hq inv'=>hq.elim) fun pv' e v a' w' h' hd hr' m'=>?_
 cases e
 exact ⟨hd,v,h',rfl,by simpa only [aG] using hr',m'⟩
theorem xQ {E:dA} (hmix:E.P.follows .mixedOrders=true) {f:FuncId} {fn:Func} {c:Code} (hf:E.P.funcs[f]?=some fn) (hbody:fn.body=some c) (hent:eR E.P f=true) (hN:fn.ntmps≤aB)
  {xs:List AV} {B:List Blk} (o:Out) (hx:xs.length≤fn.ntmps) (hB:∀ b∈B,b ≠ .free)
  (h:AwpP E fn.ntmps B.length o.po c (begin xs B) fun e st=>match e with
   | .exit _=>False
   | _=>EndsO E fn B.length o st):CfO E f xs B o:=by
 cases o with
 | ret y B'=>exact XC hmix hf hbody hent hN hx hB (h.mono fun e s hh=>by cases e <;> first | exact hh | exact EndsO.s hh)
 | pan v=>exact XD hmix hf hbody hent hN hx hB (h.mono fun e s hh=>by cases e <;> exact hh)
theorem zB {E:dA} {N nb:Nat} {st:St} (k:Nat) {cells:List AV} (ds:List D) (hk:st.b k=.var cells) (hl:cells.length=ds.length)
  (hr:∀ (i:Nat) c d,cells[i]?=some c→ds[i]?=some d→aEp c d):Sub E N nb st { s:=st.s,b:=dQ st.b k (.var (ds.map AV.d)) }:=by
 intro C hP hG a w inv
 obtain ⟨hhi,hdef,hsz',h,hsl,mm⟩:=inv
 have hlive:∀ n,((dQ st.b k (.var (ds.map AV.d))) n).live=(st.b n).live:=fun n=>by
  simp only [dQ]
  split
  ·rename_i e; subst e; rw [hk]; rfl
  ·rfl
 refine ⟨hhi,hdef,hsz',h,hsl,⟨fun j=>?_,mm.con,mm.glob,?_,?_,mm.size,mm.frame,mm.mext,mm.mold,mm.lkeep,mm.os,mm.tape,mm.output,mm.know⟩⟩
 ·by_cases ej:j=k
  ·subst ej
   simp only [dQ,if_true]
   have:=mm.blks j
   rw [hk] at this
   obtain ⟨l,cs,e,h1,h2,h3,h4,h5⟩:=this
   refine ⟨l,cs,e,h1,h2,h3,?_,h5⟩
   rw [bV] at h4 ⊢
   refine ⟨by rw [List.length_map,← hl]; exact h4.1,fun i x hx=>?_⟩
   rw [List.getElem?_map] at hx
   obtain ⟨d,hd,rfl⟩:=Option.map_eq_some_iff.1 hx
   obtain ⟨c,hc⟩:=aEo hl hd
   obtain ⟨v,hv,hrv⟩:=h4.2 i c hc
   refine ⟨v,hv,?_⟩
   simp only [aG]
   exact aEq (hr i c d hc hd) hrv
  ·simp only [dQ,if_neg ej]
   exact mm.blks j
 ·intro i j l1 l2 hij a1 a2 a3 a4 a5 a6
  rw [hlive] at a1 a2
  exact mm.apart i j l1 l2 hij a1 a2 a3 a4 a5 a6
 ·intro i l1 a1 a3 a5
  rw [hlive] at a1
  exact mm.own i l1 a1 a3 a5
end Go.Ab
