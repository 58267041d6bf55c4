import Derived.Test.YthpmjipkofbeiaaGreatDoorAbA
set_option linter.all false
namespace Go.Ab
theorem OQ {C:kD} {bl:Nat→Blk} {w:World} {h:Gh} (m:Mem C bl w h) {t:TypeId} {ti:TI} (hti:cV C.P t=some ti) {dst:Option Tmp} (hdst:∀ n,dst=some n→n<aB)
  {tl:List Nat} {x v:AV} {wr:List (Nat×Blk)} {u:Value} (hx:aG h u x) (he:OL ti.kind dst (bM tl bl) x=some (v,wr)):Good C bl h wr v ((Instr.range t u).run C.P w):=by
 unfold OL at he
 split at he
 ·rename_i s hk
  obtain ⟨n,rfl,hfree,rfl,rfl⟩:=pE he
  have hfree:=cN hfree (by simp)
  obtain ⟨i,d,h1,h2,h3⟩:=bO hti
  have hd:d=.string:=by
   subst h3
   cases d <;> simp [rY] at hk ⊢
  subst hd
  simp only [aG,aU] at hx
  subst hx
  have hL:h.L n=none:=by have:=m.blks n; rw [hfree] at this; exact this
  have hsz:∀ o,h.μ w.heap.size o=none:=fun o=>by
   cases e:h.μ w.heap.size o with
   | none=>rfl
   | some v=>exact absurd (HB m e) (by omega)
  have m':=m.allocG hfree (.iter s 0) (.stringIter ⟨s.toArray⟩ 0) 0 0 ⟨⟨w.heap.size,0,0,false⟩,by simp [Gh.add],rfl,by simpa using heap_alloc_new w _,hsz⟩ (hdst n rfl)
  refine ⟨.pointer (some ⟨w.heap.size,0,none⟩),_,_,?_,Gh.le_add hL,m',?_⟩
  ·simp [Instr.range,run_underlying h2]
  ·simp [aG,Gh.add]
 ·cases he
theorem SC {C:kD} {bl:Nat→Blk} {w:World} {h:Gh} (m:Mem C bl w h) {t:TypeId} {tl:List Nat} {x v:AV} {wr:List (Nat×Blk)} {u:Value} (hx:aG h u x) (htl:∀ p∈wr,p.1∈tl)
  (he:aAR (bM tl bl) x=some (v,wr)):Good C bl h wr v ((Instr.next u true t).run C.P w):=by
 unfold aAR at he
 split at he
 ·rename_i n
  split at he
  ·rename_i s i hb
   have hb':=cN hb (by simp)
   have hbn:=m.blks n
   rw [hb'] at hbn
   obtain ⟨l,h1,h2,h3,h4⟩:=hbn
   simp only [aG] at hx
   obtain ⟨l',h5,h6,h7⟩:=hx
   rw [h1] at h5; cases h5
   subst h7
   split at he
   ·rename_i hi
    simp only [Option.some.injEq,Prod.mk.injEq] at he
    obtain ⟨rfl,rfl⟩:=he
    have m':=m.rewrite (w':={ w with heap:=w.heap.setIfInBounds l.blk (.stringIter ⟨s.toArray⟩ (i+(Utf8.decode ⟨s.toArray⟩ i).2)) }) (n:=n) (l:=l) (by rw [hb']; rfl) h1 h2 (.iter s (i+(Utf8.decode ⟨s.toArray⟩ i).2)) (by simp)
     (fun k hk=>by simp [Array.getElem?_setIfInBounds,Ne.symm hk]) (fun o v hv=>by rw [h4] at hv; cases hv) rfl rfl rfl
     ⟨l,h1,h2,by simp [Array.getElem?_setIfInBounds,oR h3],h4⟩
    refine ⟨.tuple #[.bool true,goInt i,.int .i32 (Utf8.decode ⟨s.toArray⟩ i).1],_,h,?_,.refl h,m',?_⟩
    ·have hz:ByteArray.size ⟨s.toArray⟩=s.length:=by simp [ByteArray.size]
     simp [Instr.next,getObj,setObj,Sem.run,h3,hz,hi]
    ·simp [aG,bB,aU,goInt]
   ·rename_i hi
    simp only [Option.some.injEq,Prod.mk.injEq] at he
    obtain ⟨rfl,rfl⟩:=he
    have hz:ByteArray.size ⟨s.toArray⟩=s.length:=by simp [ByteArray.size]
    have e:(Instr.next (.pointer (some ⟨l.blk,0*l.sz+0,none⟩)) true t).run C.P w=.ok (.tuple #[.bool false]) w:=by
     simp [Instr.next,getObj,Sem.run,h3,hz,hi]
    rw [e]
    exact Good.still m (by simp [aG,bB,aU])
  ·cases he
 ·cases he
end Go.Ab
namespace Go.Ab
open Go.MapKept
theorem FE {μ:Nat→Nat→Option Value} {v:Value} {d:D} {t:TypeDesc} (hr:aU μ v d) (hk:uP t d=true):d.keyV=some v∧IsKey t v:=by
 cases d <;> cases t <;> simp only [uP] at hk <;> first | (cases hk; done) | skip
 all_goals simp only [aU] at hr
 all_goals (subst hr; simp_all [D.keyV,IsKey])
theorem GX {d:D} {v:Value} {t:TypeDesc} (hv:d.keyV=some v) (hk:uP t d=true):IsKey t v:=by
 cases d <;> cases t <;> simp only [uP] at hk <;> first | (cases hk; done) | skip
 all_goals (simp only [D.keyV,Option.some.injEq] at hv; subst hv; simp_all [IsKey])
theorem oQ {a b:D} {x y:Value} (ha:a.keyV=some x) (hb:b.keyV=some y):DN a b=true↔x=y:=by
 cases a <;> simp only [D.keyV,Option.some.injEq,reduceCtorEq] at ha
 all_goals
  subst ha
  cases b <;> simp only [D.keyV,Option.some.injEq,reduceCtorEq] at hb <;> subst hb <;> simp [DN,← List.toArray_inj (as:=_)]
theorem eJ {μ:Nat→Nat→Option Value}:∀ {es:List MapEntry} {xs:List (D×D)},mG μ es xs↔es.length=xs.length∧∀ (i:Nat) (e:MapEntry) (x:D×D),es[i]?=some e→xs[i]?=some x→x.1.keyV=some e.key∧aU μ e.val x.2
 | [],[]=>by simp [mG]
 | [],x::xs=>by simp [mG]
 | e::es,[]=>by simp [mG]
 | e::es,x::xs=>by
   simp only [mG,eJ (es:=es) (xs:=xs)]
   constructor
   ·rintro ⟨h1,h2,h3,h4⟩
    refine ⟨by simp [h3],fun i e' x' he hx=>?_⟩
    cases i with
    | zero=>simp at he hx; subst he hx; exact ⟨h1,h2⟩
    | succ i=>exact h4 i e' x' (by simpa using he) (by simpa using hx)
   ·rintro ⟨hl,h⟩
    exact ⟨(h 0 e x rfl rfl).1,(h 0 e x rfl rfl).2,by simpa using hl,fun i e' x' he hx=>h (i+1) e' x' (by simpa using he) (by simpa using hx)⟩
theorem GY {k v:D}:∀ {es:List (D×D)},(∀ e∈es,DN k e.1=false)→GP k v es=es++[(k,v)]
 | [],_=>rfl
 | e::r,h=>by
   rw [GP,if_neg (by rw [h e List.mem_cons_self]; decide),GY fun x hx=>h x (List.mem_cons_of_mem _ hx)]; rfl
theorem SE {k v:D}:∀ {es:List (D×D)} {j:Nat} {e:D×D},es[j]?=some e→DN k e.1=true→(∀ i x,i<j→es[i]?=some x→DN k x.1=false)→GP k v es=es.set j (k,v)
 | [],_,_,h,_,_=>by simp at h
 | e0::r,0,e,h,he,_=>by
   simp at h; subst h
   rw [GP,if_pos he]; rfl
 | e0::r,j+1,e,h,he,hn=>by
   rw [GP,if_neg (by rw [hn 0 e0 (by omega) rfl]; decide),SE (by simpa using h) he fun i x hi hx=>hn (i+1) x (by omega) (by simpa using hx)]; rfl
theorem GZ {k:D}:∀ {es:List (D×D)},(∀ e∈es,DN k e.1=false)→GQ k es=es
 | [],_=>rfl
 | e::r,h=>by
   rw [GQ,if_neg (by rw [h e List.mem_cons_self]; decide),GZ fun x hx=>h x (List.mem_cons_of_mem _ hx)]
theorem SF {k:D}:∀ {es:List (D×D)} {j:Nat} {e:D×D},es[j]?=some e→DN k e.1=true→(∀ i x,i<j→es[i]?=some x→DN k x.1=false)→GQ k es=es.eraseIdx j
 | [],_,_,h,_,_=>by simp at h
 | e0::r,0,e,h,he,_=>by
   simp at h; subst h
   rw [GQ,if_pos he]; rfl
 | e0::r,j+1,e,h,he,hn=>by
   rw [GQ,if_neg (by rw [hn 0 e0 (by omega) rfl]; decide),SF (by simpa using h) he fun i x hi hx=>hn (i+1) x (by omega) (by simpa using hx)]; rfl
theorem nX {P:Program} {t:TypeId} {kd:TypeDesc} {z:Option D} (h:qP P t=some (kd,z)):∃ k e,P.underlying t=some (.map k e)∧P.underlying k=some kd∧∀ d,z=some d→∃ i zv,P.info? e=some i∧i.zero=some zv∧iF zv=.d d:=by
 unfold qP at h
 split at h
 ·rename_i k e' hk
  simp only [Option.map_eq_some_iff,Prod.mk.injEq] at h
  obtain ⟨d,h1,rfl,rfl⟩:=h
  refine ⟨k,e',hk,h1,fun d hd=>?_⟩
  simp only [Option.bind_eq_some_iff] at hd
  obtain ⟨zv,⟨i,h2,h3⟩,h4⟩:=hd
  refine ⟨i,zv,h2,h3,?_⟩
  split at h4
  ·rename_i d' hd'
   rw [hd']
   simp only [Option.some.injEq] at h4
   rw [h4]
  ·cases h4
 ·cases h
theorem HA {k:D}:∀ {es:List (D×D)},(∀ e∈es,DN k e.1=false)→zE k es=none
 | [],_=>rfl
 | e::r,h=>by
   rw [zE,if_neg (by rw [h e List.mem_cons_self]; decide),HA fun x hx=>h x (List.mem_cons_of_mem _ hx)]
theorem SG {k:D}:∀ {es:List (D×D)} {j:Nat} {e:D×D},es[j]?=some e→DN k e.1=true→(∀ i x,i<j→es[i]?=some x→DN k x.1=false)→zE k es=some e.2
 | [],_,_,h,_,_=>by simp at h
 | e0::r,0,e,h,he,_=>by
   simp at h; subst h
   rw [zE,if_pos he]
 | e0::r,j+1,e,h,he,hn=>by
   rw [zE,if_neg (by rw [hn 0 e0 (by omega) rfl]; decide),SG (by simpa using h) he fun i x hi hx=>hn (i+1) x (by omega) (by simpa using hx)]
theorem OS {C:kD} {bl:Nat→Blk} {w:World} {h:Gh} (m:Mem C bl w h) {n:Nat} (hn:n<aB) (hfree:bl n=.free) (t:TypeId):Good C bl h [(n,.mp [])] (.mref n) ((Instr.makeMap t none).run C.P w):=by
 have hL:h.L n=none:=by have:=m.blks n; rw [hfree] at this; exact this
 have hsz:∀ o,h.μ w.heap.size o=none:=fun o=>by
  cases e:h.μ w.heap.size o with
  | none=>rfl
  | some v=>exact absurd (HB m e) (by omega)
 have m':=m.allocG hfree (.mp []) (.map #[] 0) 0 1 ⟨⟨w.heap.size,0,1,false⟩,#[],0,by simp [Gh.add],rfl,by simpa using (MapKept.heap_alloc w (.map #[] 0)).1,trivial,.nil,hsz⟩ hn
 refine ⟨.map (some w.heap.size),_,_,?_,Gh.le_add hL,m',?_⟩
 ·simp [Instr.makeMap]
 ·simp [aG,Gh.add]
structure At? (h:Gh) (w:World) (n:Nat) (es:List (D×D)) (l:Loc) (es':Array MapEntry) (clock:Nat):Prop where
 L:h.L n=some l
 nul:l.nul=false
 heap:w.heap[l.blk]?=some (.map es' clock)
 ents:mG h.μ es'.toList es
 apart:es.Pairwise (fun a b=>a.1.keyV ≠ b.1.keyV)
 mu:∀ o,h.μ l.blk o=none
theorem At?.before {h:Gh} {w:World} {n:Nat} {es:List (D×D)} {l:Loc} {es':Array MapEntry} {clock:Nat} (a:At? h w n es l es' clock) {k:D} {kv:Value} (hk:k.keyV=some kv) {j:Nat} {e:D×D} (hj:es[j]?=some e) (he:DN k e.1=true) :
  ∀ i x,i<j→es[i]?=some x→DN k x.1=false:=fun i x hi hx=>by
 have hl:=(eJ.1 a.ents).1
 have hil:i<es.length:=(List.getElem?_eq_some_iff.1 hx).1
 have hjl:j<es.length:=(List.getElem?_eq_some_iff.1 hj).1
 have h1:=(eJ.1 a.ents).2 i _ x (List.getElem?_eq_getElem (by omega)) hx
 have h2:=(eJ.1 a.ents).2 j _ e (List.getElem?_eq_getElem (by omega)) hj
 have hp:=List.pairwise_iff_getElem.1 a.apart i j hil hjl hi
 have e1:es[i]=x:=by rw [List.getElem?_eq_getElem hil] at hx; exact Option.some.inj hx
 have e2:es[j]=e:=by rw [List.getElem?_eq_getElem hjl] at hj; exact Option.some.inj hj
 rw [e1,e2] at hp
 cases hc:DN k x.1 with
 | false=>rfl
 | true =>
   have a1:=(oQ hk h1.1).1 hc
   have a2:=(oQ hk h2.1).1 he
   exact absurd (by rw [h1.1,h2.1,← a1,← a2]) hp
theorem At?.put {C:kD} {bl:Nat→Blk} {w:World} {h:Gh} (m:Mem C bl w h) {n:Nat} {es:List (D×D)} (hbl:bl n=.mp es) {l:Loc} {es':Array MapEntry} {clock:Nat} (a:At? h w n es l es' clock) {fs:List (D×D)} {fs':Array MapEntry} {clock':Nat}
  (hr:mG h.μ fs'.toList fs) (hp:fs.Pairwise (fun a b=>a.1.keyV ≠ b.1.keyV)):Mem C (dQ bl n (.mp fs)) { w with heap:=w.heap.setIfInBounds l.blk (.map fs' clock') } h:=by
 have hs:=MapKept.heap_set (o':=.map fs' clock') a.heap
 exact m.rewrite (by rw [hbl]; rfl) a.L a.nul (.mp fs) (by simp) (fun k hk=>hs.2 k hk) (fun o v hv=>by rw [a.mu] at hv; cases hv) rfl rfl rfl ⟨l,fs',clock',a.L,a.nul,hs.1,hr,hp,a.mu⟩
theorem LA {C:kD} {bl:Nat→Blk} {w:World} {h:Gh} (m:Mem C bl w h) {tl:List Nat} {t:TypeId} {xm xk xv v:AV} {wr:List (Nat×Blk)} {mv kv vv:Value}
  (hm:aG h mv xm) (hk:aG h kv xk) (hv:aG h vv xv) (he:EX C.P t (bM tl bl) xm xk xv=some (v,wr)) :
  v=.sk∧∃ w',(Instr.mapUpdate t mv kv vv).run C.P w=.ok () w'∧Mem C (bW bl wr) w' h:=by
 unfold EX at he
 split at he
 ·rename_i kd z n k d hmk
  split at he
  ·rename_i es hbl
   split at he <;> simp only [Option.some.injEq,Prod.mk.injEq,reduceCtorEq] at he
   rename_i hc
   obtain ⟨hc1,hc2⟩:=hc
   obtain ⟨rfl,rfl⟩:=he
   refine ⟨rfl,?_⟩
   have hbn:=cN hbl (by simp)
   obtain ⟨kt,et,ht,hkd,hz⟩:=nX hmk
   have hb:=m.blks n
   rw [hbn] at hb
   obtain ⟨l,es',clock,a1,a2,a3,a4,a5,a6⟩:=hb
   have A:At? h w n es l es' clock:=⟨a1,a2,a3,a4,a5,a6⟩
   simp only [aG] at hm hk hv
   obtain ⟨l',hL,_,rfl⟩:=hm
   rw [a1] at hL; cases hL
   obtain ⟨hkv,hik⟩:=FE hk hc1
   have hlen:=(eJ.1 a4).1
   have hget:=(eJ.1 a4).2
   have hall:∀ x∈es'.toList,IsKey kd x.key:=fun x hx=>by
    obtain ⟨i,hi⟩:=List.mem_iff_getElem?.1 hx
    have hil:i<es.length:=by have:=(List.getElem?_eq_some_iff.1 hi).1; omega
    have:=hget i x _ hi (List.getElem?_eq_getElem hil)
    rw [List.all_eq_true] at hc2
    exact GX this.1 (hc2 _ (List.getElem_mem hil))
   rcases findNow_spec hik es'.toList 0 hall with ⟨h1,h2⟩ | ⟨j,e0,h1,h2,h3⟩
   ·have hno:∀ e∈es,DN k e.1=false:=fun e hemem=>by
     obtain ⟨i,hi⟩:=List.mem_iff_getElem?.1 hemem
     have hil:i<es'.toList.length:=by have:=(List.getElem?_eq_some_iff.1 hi).1; omega
     have:=hget i _ e (List.getElem?_eq_getElem hil) hi
     cases hcc:DN k e.1 with
     | false=>rfl
     | true=>exact absurd ((oQ hkv this.1).1 hcc).symm (h2 _ (List.getElem_mem hil))
    rw [GY hno]
    refine ⟨_,?_,A.put (fs':=es'.push ⟨kv,vv,clock⟩) (clock':=clock+1) m hbn ?_ ?_⟩
    ·simp [Instr.mapUpdate,run_underlying ht,MapKept.run_getObj_map a3,run_checkKey hkd hik,run_findKey hkd h1,MapKept.run_setObj_map _ a3,Result.andThen]
    ·rw [eJ]
     refine ⟨by simp [← hlen],fun i e x hei hxi=>?_⟩
     rw [Array.toList_push] at hei
     rcases Nat.lt_or_ge i es.length with c | c
     ·rw [List.getElem?_append_left (by omega)] at hei
      rw [List.getElem?_append_left c] at hxi
      exact hget i e x hei hxi
     ·rw [List.getElem?_append_right (by omega)] at hei
      rw [List.getElem?_append_right c] at hxi
      have hi0:i - es.length=0:=by
       have:=(List.getElem?_eq_some_iff.1 hxi).1
       simp at this; omega
      rw [hi0] at hxi
      rw [hlen,hi0] at hei
      simp at hei hxi
      subst hei hxi
      exact ⟨hkv,hv⟩
    ·rw [List.pairwise_append]
     refine ⟨a5,by simp,fun a ha b hb=>?_⟩
     simp at hb
     subst hb
     intro e
     simp only at e
     obtain ⟨i,hi⟩:=List.mem_iff_getElem?.1 ha
     have hil:i<es'.toList.length:=by have:=(List.getElem?_eq_some_iff.1 hi).1; omega
     have:=hget i _ a (List.getElem?_eq_getElem hil) hi
     have h4:=hno a ha
     rw [(oQ hkv this.1).2 (by rw [this.1,hkv] at e; exact (Option.some.inj e).symm)] at h4
     cases h4
   ·have hjl:j<es'.toList.length:=(List.getElem?_eq_some_iff.1 h2).1
    have hjs:j<es.length:=by omega
    have hj:es'[j]?=some e0:=by simpa using h2
    have hjx:=hget j e0 _ h2 (List.getElem?_eq_getElem hjs)
    have hkx:DN k es[j].1=true:=(oQ hkv hjx.1).2 h3.symm
    rw [SE (List.getElem?_eq_getElem hjs) hkx (A.before hkv (List.getElem?_eq_getElem hjs) hkx)]
    refine ⟨_,?_,A.put (fs':=es'.modify j fun e=>{ e with key:=kv,val:=vv }) (clock':=clock) m hbn ?_ ?_⟩
    ·simp [Instr.mapUpdate,run_underlying ht,MapKept.run_getObj_map a3,run_checkKey hkd hik,run_findKey hkd h1,hj,h3,run_keyThatStays hik,MapKept.run_setObj_map _ a3,Result.andThen]
    ·rw [eJ]
     refine ⟨by simpa using hlen,fun i e x hei hxi=>?_⟩
     have hei':(es'.modify j fun e=>{ e with key:=kv,val:=vv })[i]?=some e:=by rw [← Array.getElem?_toList]; exact hei
     rw [Array.getElem?_modify] at hei'
     by_cases hij:j=i
     ·subst hij
      rw [List.getElem?_set_self hjs] at hxi
      simp [hj] at hei'
      subst hei'
      cases hxi
      exact ⟨hkv,hv⟩
     ·rw [List.getElem?_set_ne hij] at hxi
      rw [if_neg hij] at hei'
      exact hget i e x (by simpa using hei') hxi
    ·have hmap:(es.set j (k,d)).map (fun x=>x.1.keyV)=es.map fun x=>x.1.keyV:=by
      rw [List.map_set]
      apply List.ext_getElem?
      intro i
      by_cases hij:j=i
      ·subst hij
       rw [List.getElem?_set_self (by simpa using hjs),List.getElem?_map,List.getElem?_eq_getElem hjs]
       simp only [Option.map_some]
       rw [hkv,hjx.1,h3]
      ·rw [List.getElem?_set_ne hij]
     have h5:(es.map fun x=>x.1.keyV).Pairwise (· ≠ ·):=List.pairwise_map.2 a5
     rw [← hmap] at h5
     exact List.pairwise_map.1 h5
  ·cases he
 ·cases he
theorem LB {C:kD} {bl:Nat→Blk} {w:World} {h:Gh} (m:Mem C bl w h) {tl:List Nat} {t ty:TypeId} {ts:List TypeId} {xm xk v:AV} {wr:List (Nat×Blk)} {mv kv:Value}
  (hm:aG h mv xm) (hk:aG h kv xk) (he:EY C.P t (bM tl bl) xm xk=some (v,wr)) :
  v=.tup []∧∃ w',(Builtin.delete_ ⟨t::ts⟩ ty #[mv,kv]).run C.P w=.ok (.tuple #[]) w'∧Mem C (bW bl wr) w' h:=by
 unfold EY at he
 split at he
 ·rename_i kd z k hmk
  obtain ⟨kt,et,ht,hkd,hz⟩:=nX hmk
  simp only [aG] at hk
  split at he
  ·rename_i n
   split at he
   ·rename_i es hbl
    split at he <;> simp only [Option.some.injEq,Prod.mk.injEq,reduceCtorEq] at he
    rename_i hc
    obtain ⟨hc1,hc2⟩:=hc
    obtain ⟨rfl,rfl⟩:=he
    refine ⟨rfl,?_⟩
    have hbn:=cN hbl (by simp)
    have hb:=m.blks n
    rw [hbn] at hb
    obtain ⟨l,es',clock,a1,a2,a3,a4,a5,a6⟩:=hb
    have A:At? h w n es l es' clock:=⟨a1,a2,a3,a4,a5,a6⟩
    simp only [aG] at hm
    obtain ⟨l',hL,_,rfl⟩:=hm
    rw [a1] at hL; cases hL
    obtain ⟨hkv,hik⟩:=FE hk hc1
    have hlen:=(eJ.1 a4).1
    have hget:=(eJ.1 a4).2
    have hall:∀ x∈es'.toList,IsKey kd x.key:=fun x hx=>by
     obtain ⟨i,hi⟩:=List.mem_iff_getElem?.1 hx
     have hil:i<es.length:=by have:=(List.getElem?_eq_some_iff.1 hi).1; omega
     have:=hget i x _ hi (List.getElem?_eq_getElem hil)
     rw [List.all_eq_true] at hc2
     exact GX this.1 (hc2 _ (List.getElem_mem hil))
    rcases findNow_spec hik es'.toList 0 hall with ⟨h1,h2⟩ | ⟨j,e0,h1,h2,h3⟩
    ·have hno:∀ e∈es,DN k e.1=false:=fun e hemem=>by
      obtain ⟨i,hi⟩:=List.mem_iff_getElem?.1 hemem
      have hil:i<es'.toList.length:=by have:=(List.getElem?_eq_some_iff.1 hi).1; omega
      have:=hget i _ e (List.getElem?_eq_getElem hil) hi
      cases hcc:DN k e.1 with
      | false=>rfl
      | true=>exact absurd ((oQ hkv this.1).1 hcc).symm (h2 _ (List.getElem_mem hil))
     rw [GZ hno]
     refine ⟨_,?_,A.put (fs':=es') (clock':=clock) m hbn a4 a5⟩
     simp [Builtin.delete_,run_underlying ht,MapKept.run_getObj_map a3,run_checkKey hkd hik,run_findKey hkd h1,MapKept.run_setObj_map _ a3,Result.andThen]
    ·have hjl:j<es'.toList.length:=(List.getElem?_eq_some_iff.1 h2).1
     have hjs:j<es.length:=by omega
     have hj:es'[j]?=some e0:=by simpa using h2
     have hjx:=hget j e0 _ h2 (List.getElem?_eq_getElem hjs)
     have hkx:DN k es[j].1=true:=(oQ hkv hjx.1).2 h3.symm
     rw [SF (List.getElem?_eq_getElem hjs) hkx (A.before hkv (List.getElem?_eq_getElem hjs) hkx)]
     have hsub:(es'.eraseIdxIfInBounds j).toList=es'.toList.eraseIdx j:=by
      unfold Array.eraseIdxIfInBounds
      rw [dif_pos (by simpa using hjl)]
      simp
     refine ⟨_,?_,A.put (fs':=es'.eraseIdxIfInBounds j) (clock':=clock) m hbn ?_ (a5.sublist (List.eraseIdx_sublist _ _))⟩
     ·simp [Builtin.delete_,run_underlying ht,MapKept.run_getObj_map a3,run_checkKey hkd hik,run_findKey hkd h1,MapKept.run_setObj_map _ a3,Result.andThen]
     ·rw [hsub,eJ]
      refine ⟨by rw [List.length_eraseIdx,List.length_eraseIdx,hlen],fun i e x hei hxi=>?_⟩
      rw [List.getElem?_eraseIdx] at hei hxi
      by_cases hij:i<j
      ·rw [if_pos hij] at hei hxi
       exact hget i e x hei hxi
      ·rw [if_neg hij] at hei hxi
       exact hget (i+1) e x hei hxi
   ·cases he
  ·split at he <;> simp only [Option.some.injEq,Prod.mk.injEq,reduceCtorEq] at he
   rename_i hc1
   obtain ⟨rfl,rfl⟩:=he
   simp only [aG,aU] at hm
   obtain ⟨rfl,_⟩:=hm
   obtain ⟨_,hik⟩:=FE hk hc1
   exact ⟨rfl,w,by simp [Builtin.delete_,run_underlying ht,run_checkKey hkd hik,Result.andThen],by simpa [bW] using m⟩
  ·cases he
 ·cases he
theorem LC {C:kD} {bl:Nat→Blk} {w:World} {h:Gh} (m:Mem C bl w h) {tl:List Nat} {t ty:TypeId} {x v:AV} {wr:List (Nat×Blk)} {xv:Value}
  (hx:aG h xv x) (he:EZ C.P t (bM tl bl) x=some (v,wr)):wr=[]∧∃ u,(Builtin.len_ #[t] ty #[xv]).run C.P w=.ok u w∧aG h u v:=by
 unfold EZ at he
 split at he
 ·rename_i n
  split at he
  ·rename_i p hmk
   obtain ⟨kd,z⟩:=p
   obtain ⟨kt,et,ht,hkd,hz⟩:=nX hmk
   split at he <;> simp only [Option.some.injEq,Prod.mk.injEq,reduceCtorEq] at he
   rename_i es hbl
   obtain ⟨rfl,rfl⟩:=he
   have hb:=m.blks n
   rw [cN hbl (by simp)] at hb
   obtain ⟨l,es',clock,a1,a2,a3,a4,a5,a6⟩:=hb
   simp only [aG] at hx
   obtain ⟨l',hL,_,rfl⟩:=hx
   rw [a1] at hL; cases hL
   have hlen:=(eJ.1 a4).1
   refine ⟨rfl,goInt es'.size,by simp [Builtin.len_,run_underlying ht,MapKept.run_getObj_map a3,Result.andThen],?_⟩
   simp [aG,aU,goInt,← hlen]
  ·cases he
 ·cases he
theorem SH {C:kD} {bl:Nat→Blk} {w:World} {h:Gh} (m:Mem C bl w h) {tl:List Nat} {t:TypeId} {ok:Bool} {xm xk v:AV} {wr:List (Nat×Blk)} {mv kv:Value}
  (hm:aG h mv xm) (hk:aG h kv xk) (he:aAP C.P t ok (bM tl bl) xm xk=some (v,wr)) :
  wr=[]∧∃ u,(Instr.lookup t mv kv ok).run C.P w=.ok u w∧aG h u v:=by
 have tup:∀ {a b:Value} {x y:D},aU h.μ a x→aU h.μ b y→aG h (.tuple #[a,b]) (.tup [.d x,.d y]):=fun {a b x y} h1 h2=>by
  simp only [aG,bB]
  exact ⟨[a,b],rfl,a,[b],rfl,h1,b,[],rfl,h2,rfl⟩
 have bo:∀ b:Bool,aU h.μ (.bool b) (.bool b):=fun b=>by simp only [aU]
 unfold aAP at he
 split at he
 ·rename_i kd z k hmk
  obtain ⟨kt,et,ht,hkd,hz⟩:=nX hmk
  obtain ⟨i,zv,hi,hz1,hz2⟩:=hz z rfl
  have hzr:aU h.μ zv z:=by have:=uU (h:=h) zv; rw [hz2] at this; simpa only [aG] using this
  simp only [aG] at hk
  split at he
  ·rename_i hc1
   obtain ⟨hkv,hik⟩:=FE hk hc1
   split at he
   ·rename_i n
    split at he
    ·rename_i es hbl
     split at he <;> simp only [Option.some.injEq,Prod.mk.injEq,reduceCtorEq] at he
     rename_i hc2
     obtain ⟨rfl,rfl⟩:=he
     refine ⟨rfl,?_⟩
     have hbn:=cN hbl (by simp)
     have hb:=m.blks n
     rw [hbn] at hb
     obtain ⟨l,es',clock,a1,a2,a3,a4,a5,a6⟩:=hb
     have A:At? h w n es l es' clock:=⟨a1,a2,a3,a4,a5,a6⟩
     simp only [aG] at hm
     obtain ⟨l',hL,_,rfl⟩:=hm
     rw [a1] at hL; cases hL
     have hlen:=(eJ.1 a4).1
     have hget:=(eJ.1 a4).2
     have hall:∀ x∈es'.toList,IsKey kd x.key:=fun x hx=>by
      obtain ⟨i,hi⟩:=List.mem_iff_getElem?.1 hx
      have hil:i<es.length:=by have:=(List.getElem?_eq_some_iff.1 hi).1; omega
      have:=hget i x _ hi (List.getElem?_eq_getElem hil)
      rw [List.all_eq_true] at hc2
      exact GX this.1 (hc2 _ (List.getElem_mem hil))
     rcases findNow_spec hik es'.toList 0 hall with ⟨h1,h2⟩ | ⟨j,e0,h1,h2,h3⟩
     ·have hno:∀ e∈es,DN k e.1=false:=fun e hemem=>by
       obtain ⟨i,hi⟩:=List.mem_iff_getElem?.1 hemem
       have hil:i<es'.toList.length:=by have:=(List.getElem?_eq_some_iff.1 hi).1; omega
       have:=hget i _ e (List.getElem?_eq_getElem hil) hi
       cases hcc:DN k e.1 with
       | false=>rfl
       | true=>exact absurd ((oQ hkv this.1).1 hcc).symm (h2 _ (List.getElem_mem hil))
      rw [HA hno]
      cases ok
      ·exact ⟨zv,by simp [Instr.lookup,run_underlying ht,MapKept.run_getObj_map a3,run_checkKey hkd hik,run_findKey hkd h1,zeroValue,typeInfo,hi,hz1,Result.andThen],by simpa [aG] using hzr⟩
      ·exact ⟨.tuple #[zv,.bool false],by simp [Instr.lookup,run_underlying ht,MapKept.run_getObj_map a3,run_checkKey hkd hik,run_findKey hkd h1,zeroValue,typeInfo,hi,hz1,Result.andThen],by simpa using tup hzr (bo false)⟩
     ·have hjl:j<es'.toList.length:=(List.getElem?_eq_some_iff.1 h2).1
      have hjs:j<es.length:=by omega
      have hjx:=hget j e0 _ h2 (List.getElem?_eq_getElem hjs)
      have hkx:DN k es[j].1=true:=(oQ hkv hjx.1).2 h3.symm
      rw [SG (List.getElem?_eq_getElem hjs) hkx (A.before hkv (List.getElem?_eq_getElem hjs) hkx)]
      cases ok
      ·exact ⟨e0.val,by simp [Instr.lookup,run_underlying ht,MapKept.run_getObj_map a3,run_checkKey hkd hik,run_findKey hkd h1,Result.andThen],by simpa [aG] using hjx.2⟩
      ·exact ⟨.tuple #[e0.val,.bool true],by simp [Instr.lookup,run_underlying ht,MapKept.run_getObj_map a3,run_checkKey hkd hik,run_findKey hkd h1,Result.andThen],by simpa using tup hjx.2 (bo true)⟩
    ·cases he
   ·simp only [Option.some.injEq,Prod.mk.injEq] at he
    obtain ⟨rfl,rfl⟩:=he
    simp only [aG,aU] at hm
    obtain ⟨rfl,_⟩:=hm
    refine ⟨rfl,?_⟩
    have h1:Instr.findNow kd kv [] 0=some none:=rfl
    cases ok
    ·exact ⟨zv,by simp [Instr.lookup,run_underlying ht,run_checkKey hkd hik,run_findKey hkd h1,zeroValue,typeInfo,hi,hz1,Result.andThen],by simpa [aG] using hzr⟩
    ·exact ⟨.tuple #[zv,.bool false],by simp [Instr.lookup,run_underlying ht,run_checkKey hkd hik,run_findKey hkd h1,zeroValue,typeInfo,hi,hz1,Result.andThen],by simpa using tup hzr (bo false)⟩
   ·cases he
  ·cases he
 ·cases he
theorem lH {P:Program} (w:World) (n:Nat) {t k e:TypeId} (ht:P.underlying t=some (.map k e)) (r:Option Nat):(Op.equalIn (n+1) t (.map r) (.map none)).run P w=.ok r.isNone w:=by
 cases r <;> simp [Op.equalIn,run_underlying ht]
theorem XV {P:Program} {w:World} {h:Gh} {op:BinOp} {t:TypeId} {x v:AV} {a:Value} {ox:Operand} {p:TypeDesc×Option D} (hk:qP P t=some p) (hx:aG h a x) (he:aHG op x=some v) :
  ∃ u,((do eqGuard op t ox (.const (.map none)) a (.map none); binOp op t a (.map none)):Sem Value).run P w=.ok u w∧aG h u v:=by
 obtain ⟨kd,z⟩:=p
 obtain ⟨kt,et,ht,_,_⟩:=nX hk
 unfold aHG at he
 split at he
 ·simp only [aG] at hx
  obtain ⟨l,_,_,rfl⟩:=hx
  split at he <;> simp only [Option.some.injEq,reduceCtorEq] at he <;> subst he
  ·exact ⟨.bool false,by simp [eqGuard,binOp,Op.equal,Op.maxDepth,lH w 9999 ht],by simp [aG,aU]⟩
  ·exact ⟨.bool true,by simp [eqGuard,binOp,Op.equal,Op.maxDepth,lH w 9999 ht],by simp [aG,aU]⟩
 ·simp only [aG,aU] at hx
  obtain ⟨rfl,_⟩:=hx
  split at he <;> simp only [Option.some.injEq,reduceCtorEq] at he <;> subst he
  ·exact ⟨.bool true,by simp [eqGuard,binOp,Op.equal,Op.maxDepth,lH w 9999 ht],by simp [aG,aU]⟩
  ·exact ⟨.bool false,by simp [eqGuard,binOp,Op.equal,Op.maxDepth,lH w 9999 ht],by simp [aG,aU]⟩
 ·cases he
theorem aEF {P:Program} (w:World) {t e ts ty:TypeId} {i:TypeInfo} (ht:P.underlying t=some (.slice e)) (hi:P.info? e=some i) (b off len cap:Nat) (a:Addr) (k c:Nat) (news:List Value) (g:TypeId) (cs:Array Value) (hh:w.heap[b]?=some (.cells cs g (0,0)))
  (hl:news.length=min k len*i.size) (hnews:∀ j u,news[j]?=some u→w.cell? (a.add j)=some u) (h1:∀ u∈news,u.oneCell'=true) (hfit:off+news.length≤cs.size) :
  (Builtin.copy_ #[t,ts] ty #[.slice (some ⟨b,off,none⟩) len cap,.slice (some a) k c]).run P w=.ok (goInt (min k len:Nat)) (w.setRow b ⟨dI cs.toList off news⟩):=by
 have hfc:=Go.run_firstCells_some (P:=P) w i.size (min k len) a k c news hl hnews
 have hst:=run_storeCells_at P b off g news 0 cs w hh (by simpa using hfit) h1
 simp only [Nat.add_zero] at hst
 have hm:Nat.min k len=min k len:=rfl
 simp only [Builtin.copy_,Sem.run_bind]
 simp [run_underlying ht,dM hi,Builtin.lenOf,hm,hfc]
 erw [hst]
 simp [dI]
theorem LY {P:Program} (w:World) {t e ts ty:TypeId} {i:TypeInfo} (ht:P.underlying t=some (.slice e)) (hi:P.info? e=some i) (d:Option Addr) (len cap:Nat) (a:Option Addr) (k c:Nat) (h0:min k len=0) :
  (Builtin.copy_ #[t,ts] ty #[.slice d len cap,.slice a k c]).run P w=.ok (goInt 0) w:=by
 have hm:Nat.min k len=0:=h0
 cases d <;> cases a <;> simp [Builtin.copy_,run_underlying ht,dM hi,Builtin.lenOf,hm,Builtin.firstCells,loadCells,loadCellsFrom,storeCells]
theorem SI {C:kD} {bl:Nat→Blk} {w:World} {h:Gh} (m:Mem C bl w h) {tl:List Nat} {t ts ty:TypeId} {xd xs v:AV} {wr:List (Nat×Blk)} {dv sv:Value}
  (hd:aG h dv xd) (hs:aG h sv xs) (he:aAQ C.P t (bM tl bl) xd xs=some (v,wr)) :
  ∃ n:Nat,v=.d (.int .i64 n)∧∃ w',(Builtin.copy_ #[t,ts] ty #[dv,sv]).run C.P w=.ok (goInt n) w'∧Mem C (bW bl wr) w' h:=by
 unfold aAQ at he
 split at he
 ·rename_i sz0 by0 z0 e hti
  obtain ⟨i,d,h1,h2,h3⟩:=bO hti
  have hdk:=dV (P:=C.P) (d:=d) (by injection h3 with _ _ _ h4; exact h4.symm)
  subst hdk
  split at he
  ·rename_i te ys hte hys
   obtain ⟨ie,de,e1,e2,rfl⟩:=bO hte
   split at he
   ·rename_i hall
    simp only at hall
    obtain ⟨a,c,rfl,hsrc⟩:=(DK m hs hys hall).ex
    split at he
    ·simp only [Option.some.injEq,Prod.mk.injEq] at he
     obtain ⟨rfl,rfl⟩:=he
     simp only [aG] at hd
     subst hd
     exact ⟨0,rfl,w,LY w h2 e1 _ _ _ _ _ _ (by simp),by simpa [bW] using m⟩
    ·rename_i n lo len sz
     simp only [aG] at hd
     obtain ⟨l,hL,hsz,hv⟩:=hd
     split at he
     ·rename_i hz
      simp only [Option.some.injEq,Prod.mk.injEq] at he
      obtain ⟨rfl,rfl⟩:=he
      have hdv:∃ (ad:Option Addr) (cap:Nat),dv=.slice ad len cap:=by
       split at hv
       ·obtain ⟨rfl,_,rfl⟩:=hv
        exact ⟨none,0,rfl⟩
       ·obtain ⟨cap,rfl,_⟩:=hv
        exact ⟨_,cap,rfl⟩
      obtain ⟨ad,cap,rfl⟩:=hdv
      exact ⟨0,rfl,w,LY w h2 e1 _ _ _ _ _ _ hz,by simpa [bW] using m⟩
     ·rename_i hz
      split at he
      ·rename_i e' z xs hbl
       split at he <;> simp only [Option.some.injEq,Prod.mk.injEq,reduceCtorEq] at he
       rename_i hcond
       obtain ⟨c2,rfl,rfl⟩:=hcond
       obtain ⟨rfl,rfl⟩:=he
       refine ⟨_,rfl,?_⟩
       have hb:=m.blks n
       have hbn:=cN hbl (by simp)
       rw [hbn] at hb
       obtain ⟨l',a1,a2,a3,a4⟩:=hb
       rw [hL] at a1; cases a1
       cases hn:l.nul with
       | true =>
         rw [hn] at hv
         simp only [if_true] at hv
         exfalso
         apply hz
         rw [hv.2.2]
         omega
       | false =>
         rw [hn] at hv a4
         simp only [Bool.false_eq_true,if_false] at hv a4
         obtain ⟨cap,rfl,hcl,hcm,hca⟩:=hv
         obtain ⟨cs,a5,a6,a7,a8,a9⟩:=a4
         have hmu:∀ o,h.μ l.blk o=none:=fun o=>by
          cases e:h.μ l.blk o with
          | none=>rfl
          | some v=>have:=(a9 o v e).1; cases this
         have hne:ys ≠ []:=fun e=>hz (by subst e; simp)
         obtain ⟨ad,news,rfl,n1,n2,n3,n4⟩:=hsrc hne
         let k:=min ys.length len
         have hkl:k≤len:=Nat.min_le_right _ _
         have hky:k≤ys.length:=Nat.min_le_left _ _
         let Z:=news.take (k*ie.size)
         have hZl:Z.length=k*ie.size:=by
          simp only [Z,List.length_take,n1]
          exact Nat.min_eq_left (Nat.mul_le_mul_right _ hky)
         have hZg:∀ j,j<k*ie.size→Z[j]?=news[j]?:=fun j hj=>by simp only [Z,List.getElem?_take,if_pos hj]
         have hrow:(lo+len)*ie.size≤xs.length*ie.size:=Nat.mul_le_mul_right _ c2
         have hklm:k*ie.size≤len*ie.size:=Nat.mul_le_mul_right _ hkl
         rw [Nat.add_mul] at hrow
         have hfit:lo*ie.size+Z.length≤cs.size:=by rw [hZl]; omega
         rw [hsz]
         have hrun:=aEF (P:=C.P) w (ts:=ts) (ty:=ty) h2 e1 l.blk (lo*ie.size) len cap ad ys.length c Z e' cs a5 hZl (fun j u hj=>n2 j u (by
          have:j<k*ie.size:=by have:=(List.getElem?_eq_some_iff.1 hj).1; omega
          rw [hZg j this] at hj; exact hj)) (fun u hu=>n3 u (List.mem_of_mem_take hu)) hfit
         have hfit':lo*ie.size+Z.length≤cs.toList.length:=by simpa using hfit
         refine ⟨w.setRow l.blk ⟨dI cs.toList (lo*ie.size) Z⟩,hrun,m.rewrite (w':=w.setRow l.blk ⟨dI cs.toList (lo*ie.size) Z⟩) (by rw [hbn]; rfl) hL hn (.arr e' ie.size (xs.take lo++ys.take k++xs.drop (lo+k)) false) (setRow_size _ _ _) (fun k hk=>setRow_other w l.blk k _ hk) (fun o v hv=>by rw [hmu] at hv; cases hv) rfl rfl rfl ?_⟩
         refine ⟨l,hL,a2,a3,?_⟩
         rw [hn]
         simp only [Bool.false_eq_true,if_false]
         have hyk:(ys.take k).length=k:=by simp only [List.length_take]; omega
         refine ⟨_,setRow_heap w l.blk _ _ e' _ a5,?_,?_,?_,fun o v hv=>by rw [hmu] at hv; cases hv⟩
         ·have:=eN hfit'; simp only [Array.length_toList] at this; rw [← a6]; simpa using this
         ·have hsl:=eN hfit'
          simp only [Array.length_toList] at hsl
          simp only [List.length_append,hyk,List.length_take,List.length_drop]
          rw [show min lo xs.length+k+(xs.length - (lo+k))=xs.length from by omega]
          simpa [hsl] using a7
         ·intro i' x' hx'
          have hcell:∀ j,(⟨dI cs.toList (lo*ie.size) Z⟩:Array Value)[j]?=if lo*ie.size≤j∧j<lo*ie.size+k*ie.size then Z[j - lo*ie.size]? else cs[j]?:=fun j=>by
           have:=jH hfit' j
           rw [hZl] at this
           simpa using this
          have hmid:(xs.take lo++ys.take k++xs.drop (lo+k))[i']?=if lo≤i'∧i'<lo+k then ys[i' - lo]? else xs[i']?:=by
           have:=jH (l:=xs) (j:=lo) (vs:=ys.take k) (by rw [hyk]; omega) i'
           unfold dI at this
           rw [hyk] at this
           rw [this]
           by_cases hc:lo≤i'∧i'<lo+k
           ·rw [if_pos hc,if_pos hc,List.getElem?_take,if_pos (by omega)]
           ·rw [if_neg hc,if_neg hc]
          rw [hmid] at hx'
          by_cases hc:lo≤i'∧i'<lo+k
          ·rw [if_pos hc] at hx'
           have hlen:x'.length=ie.size:=by
            rw [List.all_eq_true] at hall
            simpa using hall x' (List.mem_of_getElem? hx')
           refine ⟨hlen,fun j c hj=>?_⟩
           have hj':j<ie.size:=by have:=(List.getElem?_eq_some_iff.1 hj).1; omega
           have q1:lo*ie.size≤i'*ie.size:=Nat.mul_le_mul_right _ hc.1
           have q2:(i'+1)*ie.size≤(lo+k)*ie.size:=Nat.mul_le_mul_right _ (by omega)
           rw [Nat.add_mul,Nat.one_mul,Nat.add_mul] at q2
           obtain ⟨u,hu,hr⟩:=n4 _ x' hx' j c hj
           refine ⟨u,?_,hr⟩
           rw [hcell,if_pos (by omega),hZg _ (by omega)]
           have q3:i'*ie.size+j - lo*ie.size=(i' - lo)*ie.size+j:=by rw [Nat.sub_mul]; omega
           rw [q3,hu]
          ·rw [if_neg hc] at hx'
           obtain ⟨b1,b2⟩:=a8 i' x' hx'
           refine ⟨b1,fun j c hj=>?_⟩
           have hj':j<ie.size:=by have:=(List.getElem?_eq_some_iff.1 hj).1; omega
           rw [hcell,if_neg]
           ·exact b2 j c hj
           ·intro hcc
            rcases Nat.lt_or_ge i' lo with q | q
            ·have:(i'+1)*ie.size≤lo*ie.size:=Nat.mul_le_mul_right _ q
             rw [Nat.add_mul,Nat.one_mul] at this; omega
            ·have:(lo+k)*ie.size≤i'*ie.size:=Nat.mul_le_mul_right _ (by omega)
             rw [Nat.add_mul] at this; omega
      ·cases he
    ·cases he
   ·cases he
  ·cases he
 ·cases he
end Go.Ab
namespace Go.Ab
def Done (C:kD) (bl:Nat→Blk) (h:Gh) (wr:List (Nat×Blk)) (v:AV) (r:Result Next):Prop :=
 ∃ nx u w' h',r=.ok nx w'∧(nx=.value u∨(nx=.skip∧u=undef))∧h.le h'∧Mem C (bW bl wr) w' h'∧aG h' u v
theorem Good.done {C:kD} {bl:Nat→Blk} {h:Gh} {wr:List (Nat×Blk)} {v:AV} {w:World} {s:Sem Value} (g:Good C bl h wr v (s.run C.P w)) :
  Done C bl h wr v ((do pure (Next.value (← s)):Sem Next).run C.P w):=by
 obtain ⟨u,w',h',hr,le,m,ru⟩:=g
 exact ⟨.value u,u,w',h',by simp [hr],.inl rfl,le,m,ru⟩
theorem Done.still {C:kD} {bl:Nat→Blk} {h:Gh} {w:World} (m:Mem C bl w h) {v:AV} {s:Sem Value} {u:Value} (hr:s.run C.P w=.ok u w) (ru:aG h u v) :
  Done C bl h [] v ((do pure (Next.value (← s)):Sem Next).run C.P w) :=
 Good.done (wr:=[]) ⟨u,w,h,hr,.refl h,m,ru⟩
theorem jS {h:Gh} {ev:Operand→Value} {ρ:Operand→AV} (hρ:∀ x,aG h (ev x) (ρ x)) (l:List Operand):bB h (l.map ev) (l.map ρ):=by
 induction l with
 | nil=>simp [bB]
 | cons x l ih=>exact ⟨_,_,rfl,hρ x,ih⟩
theorem OM {h:Gh} {ev:Operand→Value} {ρ:Operand→AV} (hρ:∀ x,aG h (ev x) (ρ x)) (o:Option Operand) :
  match o.map ρ,o.map ev with | some x,some v=>aG h v x | none,none=>True | _,_=>False:=by
 cases o
 ·trivial
 ·exact hρ _
theorem XF {C:kD} {bl:Nat→Blk} {w:World} {h:Gh} (m:Mem C bl w h) {ev:Operand→Value} {ρ:Operand→AV} (hρ:∀ x,aG h (ev x) (ρ x)) {o:Oper} (hdst:∀ n,o.dst=some n→n<aB)
  {tl:List Nat} {v:AV} {wr:List (Nat×Blk)} (htl:∀ p∈wr,p.1∈tl) (he:zK C.P ρ o (bM tl bl)=some (v,wr)):Done C bl h wr v ((execOp ev o).run C.P w):=by
 obtain ⟨dst,op,type,pos,after,guard⟩:=o
 simp only at hdst
 cases op <;> simp only [zK] at he <;> simp only [execOp] <;> first | (cases he; done) | skip
 case move x =>
  simp only [eB,Option.some.injEq,Prod.mk.injEq] at he
  obtain ⟨rfl,rfl⟩:=he
  exact ⟨_,_,w,h,rfl,.inl rfl,.refl h,m,hρ x⟩
 case assign x =>
  simp only [eB,Option.some.injEq,Prod.mk.injEq] at he
  obtain ⟨rfl,rfl⟩:=he
  exact ⟨_,_,w,h,rfl,.inl rfl,.refl h,m,hρ x⟩
 case pick c a b =>
  split at he
  ·rename_i t ht
   simp only [eB,Option.some.injEq,Prod.mk.injEq] at he
   obtain ⟨rfl,rfl⟩:=he
   have hc:=hρ c
   rw [ht] at hc
   simp only [aG,aU] at hc
   refine ⟨_,if t=true then ev a else ev b,w,h,?_,.inl rfl,.refl h,m,?_⟩
   ·simp [hc,asBool]
   ·cases t
    ·exact hρ b
    ·exact hρ a
  ·cases he
 case alloc t =>
  split at he
  ·rename_i ti hti
   split at he
   ·rename_i z hz
    obtain ⟨n,rfl,hfree,rfl,rfl⟩:=pE he
    exact (OR m hti hz (hdst n rfl) (cN hfree (by simp))).done
   ·cases he
  ·cases he
 case box t x =>
  split at he
  ·rename_i hg
   obtain ⟨n,rfl,hfree,rfl,rfl⟩:=pE he
   exact (XU m (hρ x) hg (hdst n rfl) (cN hfree (by simp))).done
  ·cases he
 case build t ps =>
  have hr:=jS hρ (ps.toList.map (·.2))
  obtain ⟨rfl,u,hu,ru⟩:=NZ (w:=w) (vs:=ps.toList.map fun p=>(p.1,ev p.2)) (by simp [List.map_map,Function.comp_def]) (by simpa [List.map_map,Function.comp_def] using hr) he
  refine Done.still m ?_ ru
  rw [← hu]
  congr 2
  apply Array.ext'
  simp
 case buildSlice t len ps =>
  have hr:=jS hρ (ps.toList.map (·.2))
  have g:=yW m hdst (vs:=ps.toList.map fun p=>(p.1,ev p.2)) htl (by simp [List.map_map,Function.comp_def]) (by simpa [List.map_map,Function.comp_def] using hr) he
  have e:ps.map (fun x=>(x.1,ev x.2))=(ps.toList.map fun p=>(p.1,ev p.2)).toArray:=by apply Array.ext'; simp
  rw [← e] at g
  exact g.done
 case load t a =>
  split at he
  ·rename_i ti hti
   obtain ⟨rfl,u,hu,ru⟩:=DQ m hti (hρ a) he
   exact Done.still m hu ru
  ·cases he
 case store t a x =>
  split at he
  ·rename_i ti hti
   obtain ⟨rfl,w',hw,m'⟩:=PJ m hti (hρ a) (hρ x) he
   exact ⟨.skip,undef,w',h,by simp [hw],.inr ⟨rfl,rfl⟩,.refl h,m',by simp [aG]⟩
  ·cases he
 case nilCheck x =>
  have hx:=hρ x
  split at he
  ·rename_i n i j hp
   simp only [eB,Option.some.injEq,Prod.mk.injEq] at he
   obtain ⟨rfl,rfl⟩:=he
   rw [hp] at hx
   have hx':=hx
   simp only [aG] at hx
   obtain ⟨l,h1,h2,h3⟩:=hx
   rw [h3] at hx' ⊢
   exact ⟨_,_,w,h,rfl,.inl rfl,.refl h,m,hx'⟩
  ·rename_i cs hp
   simp only [eB,Option.some.injEq,Prod.mk.injEq] at he
   obtain ⟨rfl,rfl⟩:=he
   rw [hp] at hx
   have hx':=hx
   simp only [aG] at hx
   obtain ⟨b,o,h3,_⟩:=hx
   rw [h3] at hx' ⊢
   exact ⟨_,_,w,h,rfl,.inl rfl,.refl h,m,hx'⟩
  ·cases he
 case binOp op t x y yt =>
  split at he
  ·split at he
   ·rename_i hc
    simp only [Option.map_eq_some_iff,Prod.mk.injEq] at he
    obtain ⟨v',hv,rfl,rfl⟩:=he
    obtain ⟨u,hu,ru⟩:=YX (P:=C.P) (w:=w) (ox:=x) (hρ x) hv
    have h1:=hρ (.const .nilIface)
    rw [hc] at h1
    simp only [aG,aU] at h1
    exact Done.still m (by rw [h1.1]; exact hu) ru
   ·cases he
  ·split at he
   ·rename_i hc
    split at he
    ·rename_i hk
     simp only [Option.map_eq_some_iff,Prod.mk.injEq] at he
     obtain ⟨v',hv,rfl,rfl⟩:=he
     obtain ⟨p,hp⟩:=Option.isSome_iff_exists.1 hk
     obtain ⟨u,hu,ru⟩:=XV (P:=C.P) (w:=w) (ox:=x) hp (hρ x) hv
     have h1:=hρ (.const (.map none))
     rw [hc] at h1
     simp only [aG,aU] at h1
     exact Done.still m (by rw [h1.1]; exact hu) ru
    ·cases he
   ·cases he
  simp only [Option.map_eq_some_iff,Prod.mk.injEq] at he
  obtain ⟨v',hv,rfl,rfl⟩:=he
  obtain ⟨u,hu,ru⟩:=YV (P:=C.P) (w:=w) (ox:=x) (oy:=y) (hρ x) (hρ y) hv
  exact Done.still m hu ru
 case unOp op t x =>
  simp only [Option.map_eq_some_iff,Prod.mk.injEq] at he
  obtain ⟨v',hv,rfl,rfl⟩:=he
  obtain ⟨u,hu,ru⟩:=aCQ (P:=C.P) (w:=w) (hρ x) hv
  exact Done.still m hu ru
 case convert s d x =>
  obtain ⟨rfl,u,hu,ru⟩:=TN m (hρ x) he
  exact Done.still m hu ru
 case makeFunc fn first caps =>
  cases fn <;> simp only at he <;> first | (cases he; done) | skip
  rename_i f
  split at he
  ·rename_i h0
   simp only [eB,Option.some.injEq,Prod.mk.injEq] at he
   obtain ⟨rfl,rfl⟩:=he
   have hf:first=#[]:=Array.eq_empty_of_size_eq_zero h0
   subst hf
   refine Done.still m (u:=.func (.func f) #[] (caps.map ev)) (by simp [Instr.makeFunc]) ?_
   simp only [aG]
   exact ⟨caps.toList.map ev,by congr 1; apply Array.ext'; simp,jS hρ _⟩
  ·split at he
   ·rename_i h0
    simp only [eB,Option.some.injEq,Prod.mk.injEq] at he
    obtain ⟨rfl,rfl⟩:=he
    have hf:caps=#[]:=Array.eq_empty_of_size_eq_zero h0
    subst hf
    refine Done.still m (u:=.func (.func f) (first.map ev) #[]) (by simp [Instr.makeFunc]) ?_
    simp only [aG]
    exact ⟨first.toList.map ev,by congr 1; apply Array.ext'; simp,jS hρ _⟩
   ·cases he
 case makeSlice t l c=>exact (CD m hdst (hρ l) (hρ c) he).done
 case slice t x lo hi mx =>
  split at he
  ·rename_i ti hti
   obtain ⟨rfl,u,hu,ru⟩:=PE (w:=w) hti (hρ x) (OM hρ lo) (OM hρ hi) (OM hρ mx) he
   exact Done.still m hu ru
  ·cases he
 case fieldAddr t x f =>
  split at he
  ·rename_i ti hti
   obtain ⟨rfl,u,hu,ru⟩:=BZ (w:=w) hti (hρ x) he
   exact Done.still m hu ru
  ·cases he
 case field t x f =>
  split at he
  ·rename_i ti hti
   obtain ⟨rfl,u,hu,ru⟩:=PC (w:=w) hti (hρ x) he
   exact Done.still m hu ru
  ·cases he
 case indexAddr t x ix =>
  split at he
  ·rename_i ti i hti hi
   obtain ⟨k,hk⟩:=pN (hρ ix) hi
   obtain ⟨rfl,u,hu,ru⟩:=CA (w:=w) (k:=k) hti (hρ x) he
   rw [hk]
   exact Done.still m hu ru
  ·cases he
 case index t x ix =>
  split at he
  ·rename_i ti i hti hi
   obtain ⟨k,hk⟩:=pN (hρ ix) hi
   obtain ⟨rfl,u,hu,ru⟩:=PD (w:=w) (k:=k) hti (hρ x) he
   rw [hk]
   exact Done.still m hu ru
  ·cases he
 case extract x i =>
  have hx:=hρ x
  split at he
  ·rename_i vs hv
   simp only [Option.map_eq_some_iff,Prod.mk.injEq] at he
   obtain ⟨v',hv',rfl,rfl⟩:=he
   rw [hv] at hx
   simp only [aG] at hx
   obtain ⟨arr,hx,hr⟩:=hx
   obtain ⟨u,hu,ru⟩:=(bV.1 hr).2 i _ hv'
   rw [hx]
   exact Done.still m (by simp [Instr.extract,hu]) ru
  ·cases he
 case range t x =>
  split at he
  ·rename_i ti hti
   exact (OQ m hti hdst (hρ x) he).done
  ·cases he
 case next x isS =>
  split at he
  ·rename_i hs
   subst hs
   exact (SC m (hρ x) htl he).done
  ·cases he
 case makeMap t hint =>
  cases hint <;> simp only at he
  ·obtain ⟨n,rfl,hfree,rfl,rfl⟩:=pE he
   exact (OS m (hdst n rfl) (cN hfree (by simp)) t).done
  ·cases he
 case mapUpdate t mo k x =>
  obtain ⟨rfl,w',hw,m'⟩:=LA m (hρ mo) (hρ k) (hρ x) he
  exact ⟨.skip,undef,w',h,by simp [hw],.inr ⟨rfl,rfl⟩,.refl h,m',by simp [aG]⟩
 case lookup t mo k ok =>
  obtain ⟨rfl,u,hu,ru⟩:=SH m (hρ mo) (hρ k) he
  exact Done.still m hu ru
 case call c =>
  obtain ⟨callee,args,argTypes⟩:=c
  unfold zJ at he
  simp only at he
  split at he
  ·split at he
   ·rename_i x t ha ht
    have ha':args=#[x]:=by apply Array.ext'; simpa using ha
    have ht':argTypes=#[t]:=by apply Array.ext'; simpa using ht
    subst ha' ht'
    split at he
    ·rename_i n hx
     have h1:=hρ x
     rw [hx] at h1
     obtain ⟨rfl,u,hu,ru⟩:=LC (ty:=type) m h1 he
     have g:=Done.still m hu ru
     simpa [resolve,invoke,builtin] using g
    ·split at he
     ·rename_i ti hti
      simp only [Option.map_eq_some_iff,Prod.mk.injEq] at he
      obtain ⟨v',hv,rfl,rfl⟩:=he
      obtain ⟨u,hu,ru⟩:=YY (P:=C.P) (w:=w) (ty:=type) hti (hρ x) hv
      have g:=Done.still m hu ru
      simpa [resolve,invoke,builtin] using g
     ·cases he
   ·cases he
  ·split at he
   ·rename_i mo k t ts ha ht
    have ha':args=#[mo,k]:=by apply Array.ext'; simpa using ha
    have ht':argTypes=⟨t::ts⟩:=by apply Array.ext'; simpa using ht
    subst ha' ht'
    obtain ⟨rfl,w',hw,m'⟩:=LB (ty:=type) (ts:=ts) m (hρ mo) (hρ k) he
    have g0:Good C bl h wr (.tup []) ((Builtin.delete_ ⟨t::ts⟩ type #[ev mo,ev k]).run C.P w):=⟨_,w',h,hw,.refl h,m',by simp only [aG,bB]; exact ⟨[],rfl,rfl⟩⟩
    have g:=g0.done
    simpa [resolve,invoke,builtin] using g
   ·cases he
  ·split at he
   ·rename_i d s t ts ha ht
    have ha':args=#[d,s]:=by apply Array.ext'; simpa using ha
    have ht':argTypes=#[t,ts]:=by apply Array.ext'; simpa using ht
    subst ha' ht'
    obtain ⟨n,rfl,w',hw,m'⟩:=SI (ts:=ts) (ty:=type) m (hρ d) (hρ s) he
    have g0:Good C bl h wr (.d (.int .i64 n)) ((Builtin.copy_ #[t,ts] type #[ev d,ev s]).run C.P w):=⟨_,w',h,hw,.refl h,m',by simp [aG,aU,goInt]⟩
    have g:=g0.done
    simpa [resolve,invoke,builtin] using g
   ·cases he
  ·split at he
   ·rename_i x t ha ht
    have ha':args=#[x]:=by apply Array.ext'; simpa using ha
    have ht':argTypes=#[t]:=by apply Array.ext'; simpa using ht
    subst ha' ht'
    obtain ⟨rfl,w',hw,m'⟩:=PK (ty:=type) m (hρ x) he
    have g0:Good C bl h wr (.tup []) ((Builtin.clear_ #[t] type #[ev x]).run C.P w):=⟨_,w',h,hw,.refl h,m',by simp only [aG,bB]; exact ⟨[],rfl,rfl⟩⟩
    have g:=g0.done
    simpa [resolve,invoke,builtin] using g
   ·cases he
  ·split at he
   ·rename_i x t ha ht
    split at he
    ·rename_i ti hti
     simp only [Option.map_eq_some_iff,Prod.mk.injEq] at he
     obtain ⟨v',hv,rfl,rfl⟩:=he
     have ha':args=#[x]:=by apply Array.ext'; simpa using ha
     have ht':argTypes=#[t]:=by apply Array.ext'; simpa using ht
     subst ha' ht'
     obtain ⟨u,hu,ru⟩:=YW (P:=C.P) (w:=w) (ty:=type) hti (hρ x) hv
     have g:=Done.still m hu ru
     simpa [resolve,invoke,builtin] using g
    ·cases he
   ·cases he
  ·split at he
   ·rename_i s x t t' ha ht
    split at he
    ·rename_i htt
     subst htt
     split at he
     ·rename_i sz1 by1 z1 e hti
      obtain ⟨i,d,h1,h2,h3⟩:=bO hti
      have hd:=dV (P:=C.P) (d:=d) (by injection h3 with _ _ _ h4; exact h4.symm)
      subst hd
      have ha':args=#[s,x]:=by apply Array.ext'; simpa using ha
      have ht':argTypes=#[t',t']:=by apply Array.ext'; simpa using ht
      subst ha' ht'
      have g:=KU (ty:=type) m hdst h2 (hρ s) (hρ x) he
      simpa [resolve,invoke,builtin] using g.done
     ·cases he
    ·have ha':args=#[s,x]:=by apply Array.ext'; simpa using ha
     have ht':argTypes=#[t,t']:=by apply Array.ext'; simpa using ht
     subst ha' ht'
     have g:=GE (ty:=type) m hdst (hρ s) (hρ x) he
     simpa [resolve,invoke,builtin] using g.done
   ·cases he
  ·split at he
   ·rename_i x y ha
    split at he
    ·rename_i k a k' b hx hy
     split at he
     ·rename_i hk
      subst hk
      simp only [eB,Option.some.injEq,Prod.mk.injEq] at he
      obtain ⟨rfl,rfl⟩:=he
      have ha':args=#[x,y]:=by apply Array.ext'; simpa using ha
      subst ha'
      have h1:=hρ x
      have h2:=hρ y
      rw [hx] at h1
      rw [hy] at h2
      simp only [aG,aU] at h1 h2
      have g:=Done.still m (s:=Builtin.max_ argTypes type (#[x,y].map ev)) (u:=.int k' (if b>a then b else a)) (by simp [Builtin.max_,Builtin.max2,h1,h2]) (show aG h (.int k' (if b>a then b else a)) (.d (.int k' (if b>a then b else a))) by simp only [aG,aU])
      simpa [resolve,invoke,builtin] using g
     ·cases he
    ·cases he
   ·rename_i x r hno ha
    split at he
    ·rename_i k a hx
     simp only [Option.map_eq_some_iff,Prod.mk.injEq] at he
     obtain ⟨n,hn,rfl,rfl⟩:=he
     have h1:=hρ x
     rw [hx] at h1
     simp only [aG,aU] at h1
     have hargs:(args.map ev).toList=.int k a::r.map ev:=by rw [Array.toList_map,ha,List.map_cons,h1]
     have g:=Done.still m (s:=Builtin.max_ argTypes type (args.map ev)) (u:=.int k n) (by
      unfold Builtin.max_
      rw [hargs]
      exact uZ hρ (fun a b=>rfl) r a n hn) (show aG h (.int k n) (.d (.int k n)) by simp only [aG,aU])
     simpa [resolve,invoke,builtin] using g
    ·cases he
   ·cases he
  ·split at he
   ·rename_i x y ha
    split at he
    ·rename_i k a k' b hx hy
     split at he
     ·rename_i hk
      subst hk
      simp only [eB,Option.some.injEq,Prod.mk.injEq] at he
      obtain ⟨rfl,rfl⟩:=he
      have ha':args=#[x,y]:=by apply Array.ext'; simpa using ha
      subst ha'
      have h1:=hρ x
      have h2:=hρ y
      rw [hx] at h1
      rw [hy] at h2
      simp only [aG,aU] at h1 h2
      have g:=Done.still m (s:=Builtin.min_ argTypes type (#[x,y].map ev)) (u:=.int k' (if b<a then b else a)) (by simp [Builtin.min_,Builtin.min2,h1,h2]) (show aG h (.int k' (if b<a then b else a)) (.d (.int k' (if b<a then b else a))) by simp only [aG,aU])
      simpa [resolve,invoke,builtin] using g
     ·cases he
    ·cases he
   ·rename_i x r hno ha
    split at he
    ·rename_i k a hx
     simp only [Option.map_eq_some_iff,Prod.mk.injEq] at he
     obtain ⟨n,hn,rfl,rfl⟩:=he
     have h1:=hρ x
     rw [hx] at h1
     simp only [aG,aU] at h1
     have hargs:(args.map ev).toList=.int k a::r.map ev:=by rw [Array.toList_map,ha,List.map_cons,h1]
     have g:=Done.still m (s:=Builtin.min_ argTypes type (args.map ev)) (u:=.int k n) (by
      unfold Builtin.min_
      rw [hargs]
      exact uZ hρ (fun a b=>rfl) r a n hn) (show aG h (.int k n) (.d (.int k n)) by simp only [aG,aU])
     simpa [resolve,invoke,builtin] using g
    ·cases he
   ·cases he
  ·cases he
mutual
def jW (r:Nat→Option Nat) (bl:Nat→Blk) (kn:Bool):AV→AV×List Nat
 | .d x=>(.d x,[])
 | .un=>(.un,[])
 | .sk=>(.sk,[])
 | .nils=>(if kn then .nils else .d (.sl []),[])
 | .dp cs=>(.dp cs,[])
 | .ptr n i j=>match r n with
   | some m=>(.ptr m i j,[])
   | none=>(.un,[])
 | .ref n lo len sz=>match r n with
   | some m=>(.ref m lo len sz,[])
   | none=>match OB bl (.ref n lo len sz) with
     | some (x,l)=>(.d x,l)
     | none=>(.un,[])
 | .mref n=>match r n with
   | some m=>(.mref m,[])
   | none=>(.un,[])
 | .anyb=>(.anyb,[])
 | .agg cs=>(.agg (fL r bl kn cs).1,(fL r bl kn cs).2)
 | .tup cs=>(.tup (fL r bl kn cs).1,(fL r bl kn cs).2)
 | .clo f caps=>(.clo f (fL r bl kn caps).1,(fL r bl kn caps).2)
 | .bnd f caps=>(.bnd f (fL r bl kn caps).1,(fL r bl kn caps).2)
def fL (r:Nat→Option Nat) (bl:Nat→Blk) (kn:Bool):List AV→List AV×List Nat
 | []=>([],[])
 | c::cs=>((jW r bl kn c).1::(fL r bl kn cs).1,(jW r bl kn c).2++(fL r bl kn cs).2)
end
def qG (r:Nat→Option Nat) (bl:Nat→Blk) (kn:Bool):Blk→Blk×List Nat
 | .var cells=>(.var (fL r bl kn cells).1,(fL r bl kn cells).2)
 | .varr ety sz xs=>(.varr ety sz (xs.map fun x=>(fL r bl kn x).1),xs.flatMap fun x=>(fL r bl kn x).2)
 | b=>(b,[])
structure aKi (h h1:Gh) (bl:Nat→Blk) (l:List Nat):Prop where
 le:PH h.μ h1.μ
 L:h1.L=h.L
 els:∀ n∈l,∀ e s xs f,bl n=.arr e s xs f→∀ loc,h.L n=some loc→loc.nul=false→lK h1.μ loc.blk 0 s xs
 other:∀ b,(∀ n∈l,∀ loc,h.L n=some loc→loc.nul=false→b ≠ loc.blk)→∀ o,h1.μ b o=h.μ b o
theorem yX {C:kD} {w:World}:∀ (l:List Nat) (bl:Nat→Blk) (h:Gh),Mem C bl w h→(∀ n∈l,∃ e s xs f,bl n=.arr e s xs f) →
  ∃ h1,aKi h h1 bl l∧Mem C (bW bl (eC bl l)) w h1
 | [],bl,h,m,_=>⟨h,⟨fun _ _ _ e=>e,rfl,(fun n hn=>by cases hn),fun _ _ _=>rfl⟩,by simpa [eC,bW] using m⟩
 | n::l,bl,h,m,ha=>by
   obtain ⟨e,s,xs,f,hb⟩:=ha n List.mem_cons_self
   obtain ⟨h',le,hL,m',hels,hoth⟩:=m.freeze hb
   have hb':(bl n).frzd=.arr e s xs true:=by rw [hb]; rfl
   have hup:dQ bl n (.arr e s xs true)=bW bl (eC bl [n]):=by simp [eC,bW,hb']
   rw [hup] at m'
   obtain ⟨h1,hd,m1⟩:=yX l _ h' m' (fun k hk=>by
    obtain ⟨e',s',xs',f',hk'⟩:=ha k (List.mem_cons_of_mem _ hk)
    rw [kB]
    split
    ·exact ⟨e',s',xs',true,by rw [hk']; rfl⟩
    ·exact ⟨e',s',xs',f',hk'⟩)
   rw [uN] at m1
   refine ⟨h1,⟨fun b o v e0=>hd.le b o v (le.μ b o v e0),hd.L.trans hL,fun k hk e' s' xs' f' hk' loc hloc hnul=>?_,fun b hbn o=>?_⟩,m1⟩
   rotate_left
   ·rw [hd.other b (fun k hk loc hloc=>hbn k (List.mem_cons_of_mem _ hk) loc (by rw [← hL]; exact hloc)) o]
    exact hoth b (hbn n List.mem_cons_self) o
   rcases List.mem_cons.1 hk with rfl | hk2
   ·rw [hb] at hk'; cases hk'
    exact qW hd.le _ _ _ _ (hels loc hloc hnul)
   ·by_cases hkn:k=n
    ·subst hkn
     rw [hb] at hk'; cases hk'
     exact qW hd.le _ _ _ _ (hels loc hloc hnul)
    ·exact hd.els k hk2 e' s' xs' f' (by rw [kB,if_neg (by simpa using hkn)]; exact hk') loc (by rw [hL]; exact hloc) hnul
structure Ren (h h':Gh) (r:Nat→Option Nat):Prop where
 μ:PH h.μ h'.μ
 L:∀ n m loc,r n=some m→h.L n=some loc→h'.L m=some loc
theorem aEm {h h':Gh} {w:World} {bl:Nat→Blk} (hb:∀ n,(bl n).live=true→lL h w n (bl n)) {n lo len sz:Nat} {x:D} {l:List Nat} {v:Value} (hr:aG h v (.ref n lo len sz)) (ht:OB bl (.ref n lo len sz)=some (x,l))
  (hels:∀ k∈l,∀ e s xs f,bl k=.arr e s xs f→∀ loc,h.L k=some loc→loc.nul=false→lK h'.μ loc.blk 0 s xs):aU h'.μ v x:=by
 simp only [OB] at ht
 split at ht
 ·rename_i e s xs f hbl
  split at ht <;> simp only [Option.some.injEq,Prod.mk.injEq,reduceCtorEq] at ht
  rename_i hle
  obtain ⟨rfl,rfl⟩:=ht
  simp only [aG] at hr
  obtain ⟨l,hl,hsz,hx⟩:=hr
  have hb:=hb n (by rw [hbl]; rfl)
  rw [hbl] at hb
  obtain ⟨l',hl',hs,_,_⟩:=hb
  rw [hl] at hl'; cases hl'
  subst hs
  simp only [aU]
  have hlen:((xs.drop lo).take len).length=len:=by simp; omega
  split at hx
  ·obtain ⟨rfl,rfl,rfl⟩:=hx
   exact ⟨none,0,by simp,by simp,.inl (by simp)⟩
  ·rename_i hn
   obtain ⟨cap,rfl,hc,_,_⟩:=hx
   refine ⟨_,cap,by rw [hlen],by rw [hlen]; exact hc,.inr ⟨l.blk,lo*l.sz,l.sz,rfl,?_⟩⟩
   have:=hels n (by simp) _ _ _ _ hbl l hl (by simpa using hn)
   rw [gW] at this ⊢
   intro i y hi
   rw [List.getElem?_take] at hi
   split at hi
   ·rw [List.getElem?_drop] at hi
    have:=this _ y hi
    rwa [Nat.zero_add,Nat.add_mul] at this
   ·cases hi
 ·cases ht
mutual
theorem yY {h h':Gh} {w:World} {bl:Nat→Blk} {r:Nat→Option Nat} {kn:Bool} (hb:∀ n,(bl n).live=true→lL h w n (bl n)) (hren:Ren h h' r) {l:List Nat}
  (hels:∀ k∈l,∀ e s xs f,bl k=.arr e s xs f→∀ loc,h.L k=some loc→loc.nul=false→lK h'.μ loc.blk 0 s xs) :
  ∀ (c:AV) (v:Value),(∀ k∈(jW r bl kn c).2,k∈l)→aG h v c→aG h' v (jW r bl kn c).1
 | .d x,v,_,hr=>by simp only [aG,jW] at *; exact kS hren.μ x v hr
 | .un,_,_,_=>by simp [aG,jW]
 | .sk,_,_,hr=>by simpa [aG,jW] using hr
 | .nils,v,_,hr=>by
   simp only [aG,jW] at *
   subst hr
   cases kn <;> simp [aG,aU]
 | .dp cs,v,_,hr=>by
   simp only [aG,jW] at *
   obtain ⟨b,o,h1,h2⟩:=hr
   exact ⟨b,o,h1,gO hren.μ cs b o h2⟩
 | .ptr n i j,v,_,hr=>by
   simp only [jW]
   split
   ·rename_i m hm
    simp only [aG] at *
    obtain ⟨loc,h1,h2⟩:=hr
    exact ⟨loc,hren.L n m loc hm h1,h2⟩
   ·simp [aG]
 | .anyb,v,_,hr=>by simpa [aG,jW] using hr
 | .mref n,v,_,hr=>by
   simp only [jW]
   split
   ·rename_i m hm
    simp only [aG] at *
    obtain ⟨loc,h1,h2⟩:=hr
    exact ⟨loc,hren.L n m loc hm h1,h2⟩
   ·simp [aG]
 | .ref n lo len sz,v,hl,hr=>by
   simp only [jW] at *
   split
   ·rename_i m hm
    simp only [aG] at *
    obtain ⟨loc,h1,h2⟩:=hr
    exact ⟨loc,hren.L n m loc hm h1,h2⟩
   ·rename_i hm
    split
    ·rename_i x l' ht
     simp only [hm,ht] at hl
     simp only [aG]
     exact aEm hb hr ht (fun k hk=>hels k (hl k hk))
    ·simp [aG]
 | .agg cs,v,hl,hr=>by
   simp only [aG,jW] at *
   obtain ⟨arr,h1,h2⟩:=hr
   exact ⟨arr,h1,nU hb hren hels cs arr hl h2⟩
 | .tup cs,v,hl,hr=>by
   simp only [aG,jW] at *
   obtain ⟨arr,h1,h2⟩:=hr
   exact ⟨arr,h1,nU hb hren hels cs arr hl h2⟩
 | .clo f caps,v,hl,hr=>by
   simp only [aG,jW] at *
   obtain ⟨arr,h1,h2⟩:=hr
   exact ⟨arr,h1,nU hb hren hels caps arr hl h2⟩
 | .bnd f caps,v,hl,hr=>by
   simp only [aG,jW] at *
   obtain ⟨arr,h1,h2⟩:=hr
   exact ⟨arr,h1,nU hb hren hels caps arr hl h2⟩
theorem nU {h h':Gh} {w:World} {bl:Nat→Blk} {r:Nat→Option Nat} {kn:Bool} (hb:∀ n,(bl n).live=true→lL h w n (bl n)) (hren:Ren h h' r) {l:List Nat}
  (hels:∀ k∈l,∀ e s xs f,bl k=.arr e s xs f→∀ loc,h.L k=some loc→loc.nul=false→lK h'.μ loc.blk 0 s xs) :
  ∀ (cs:List AV) (vs:List Value),(∀ k∈(fL r bl kn cs).2,k∈l)→bB h vs cs→bB h' vs (fL r bl kn cs).1
 | [],vs,_,hr=>by simpa [bB,fL] using hr
 | c::cs,vs,hl,hr=>by
   simp only [bB,fL] at *
   obtain ⟨u,us,h1,h2,h3⟩:=hr
   exact ⟨u,us,h1,yY hb hren hels c u (fun k hk=>hl k (List.mem_append_left _ hk)) h2,nU hb hren hels cs us (fun k hk=>hl k (List.mem_append_right _ hk)) h3⟩
end
theorem GI {r:Nat→Option Nat} {bl:Nat→Blk} {kn:Bool}:∀ (cs:List AV),(fL r bl kn cs).1=cs.map fun c=>(jW r bl kn c).1
 | []=>by simp [fL]
 | c::cs=>by simp [fL,GI cs]
theorem RM {r:Nat→Option Nat} {bl:Nat→Blk} {kn:Bool}:∀ (cs:List AV),(fL r bl kn cs).2=cs.flatMap fun c=>(jW r bl kn c).2
 | []=>by simp [fL]
 | c::cs=>by simp [fL,RM cs]
theorem yZ {h h':Gh} {w:World} {bl:Nat→Blk} {r:Nat→Option Nat} {kn:Bool} (hb:∀ n,(bl n).live=true→lL h w n (bl n)) (hren:Ren h h' r) {l:List Nat}
  (hels:∀ k∈l,∀ e s xs f,bl k=.arr e s xs f→∀ loc,h.L k=some loc→loc.nul=false→lK h'.μ loc.blk 0 s xs)
  {n m:Nat} (hnm:r n=some m) {b:Blk} {w':World} (hlive:b.live=true) (hrb:lL h w n b) (hl:∀ k∈(qG r bl kn b).2,k∈l) (hheap:∀ loc,h.L n=some loc→loc.nul=false→w'.heap[loc.blk]?=w.heap[loc.blk]?)
  (hmu:∀ loc,h.L n=some loc→loc.nul=false→∀ o v,h'.μ loc.blk o=some v→h.μ loc.blk o=some v):lL h' w' m (qG r bl kn b).1:=by
 cases b <;> simp only [qG] at*<;> first | (simp [Blk.live] at hlive; done) | skip
 case var cells =>
  obtain ⟨loc,cs,ety,h1,h2,h3,h4,h5⟩:=hrb
  refine ⟨loc,cs,ety,hren.L n m loc hnm h1,h2,(hheap loc h1 h2).trans h3,nU hb hren hels cells cs hl h4,fun o=>?_⟩
  cases e:h'.μ loc.blk o with
  | none=>rfl
  | some v=>have:=hmu loc h1 h2 o v e; rw [h5] at this; cases this
 case arr ety sz xs frz =>
  obtain ⟨loc,h1,h2,h3,h4⟩:=hrb
  refine ⟨loc,hren.L n m loc hnm h1,h2,h3,?_⟩
  cases hn:loc.nul with
  | true=>rw [hn] at h4; simpa using h4
  | false =>
    rw [hn] at h4
    obtain ⟨cs,h5,h6,h7,h8,h9⟩:=h4
    simp only [Bool.false_eq_true,if_false]
    refine ⟨cs,(hheap loc h1 hn).trans h5,h6,h7,fun i x hx=>⟨(h8 i x hx).1,fun j c hc=>?_⟩,fun o v hv=>h9 o v (hmu loc h1 hn o v hv)⟩
    obtain ⟨v,hv,hr⟩:=(h8 i x hx).2 j c hc
    exact ⟨v,hv,kS hren.μ c v hr⟩
 case mp es =>
  obtain ⟨loc,es',clock,h1,h2,h3,h4,h5,h6⟩:=hrb
  refine ⟨loc,es',clock,hren.L n m loc hnm h1,h2,(hheap loc h1 h2).trans h3,tK hren.μ _ _ h4,h5,fun o=>?_⟩
  cases e:h'.μ loc.blk o with
  | none=>rfl
  | some v=>have:=hmu loc h1 h2 o v e; rw [h6] at this; cases this
 case varr ety sz xs =>
  obtain ⟨loc,h1,h2,h3,h4⟩:=hrb
  refine ⟨loc,hren.L n m loc hnm h1,h2,h3,?_⟩
  cases hn:loc.nul with
  | true=>rw [hn] at h4; simpa using h4
  | false =>
    rw [hn] at h4
    obtain ⟨cs,h5,h6,h7,h8,h9⟩:=h4
    simp only [Bool.false_eq_true,if_false]
    refine ⟨cs,(hheap loc h1 hn).trans h5,h6,by simpa using h7,fun i x hx=>?_,fun o=>?_⟩
    ·rw [List.getElem?_map,Option.map_eq_some_iff] at hx
     obtain ⟨x0,hx0,rfl⟩:=hx
     refine ⟨by rw [GI,List.length_map]; exact (h8 i x0 hx0).1,fun j c hc=>?_⟩
     rw [GI,List.getElem?_map,Option.map_eq_some_iff] at hc
     obtain ⟨c0,hc0,rfl⟩:=hc
     obtain ⟨v,hv,hr⟩:=(h8 i x0 hx0).2 j c0 hc0
     exact ⟨v,hv,yY hb hren hels c0 v (fun k hk=>hl k (List.mem_flatMap.2 ⟨x0,List.mem_iff_getElem?.2 ⟨i,hx0⟩,by rw [RM]; exact List.mem_flatMap.2 ⟨c0,List.mem_iff_getElem?.2 ⟨j,hc0⟩,hk⟩⟩)) hr⟩
    ·cases e:h'.μ loc.blk o with
     | none=>rfl
     | some v=>have:=hmu loc h1 hn o v e; rw [h9] at this; cases this
 case iter s i =>
  obtain ⟨loc,h1,h2,h3,h5⟩:=hrb
  refine ⟨loc,hren.L n m loc hnm h1,h2,(hheap loc h1 h2).trans h3,fun o=>?_⟩
  cases e:h'.μ loc.blk o with
  | none=>rfl
  | some v=>have:=hmu loc h1 h2 o v e; rw [h5] at this; cases this
structure dA where
 P:Program
 G:Nat→Option (List D)
def bL (B:List Blk):Nat→Blk:=fun n=>if aB≤n then (B[n - aB]?).getD .free else .free
def mE (h:Gh) (B:List Blk):List Nat:=(List.range B.length).filterMap fun j=>(h.L (aB+j)).bind fun l=>if l.nul then none else some l.blk
def cK (E:dA) (w:World) (h:Gh) (B:List Blk):kD:=⟨E.P,E.G,w,h,mE h B,[]⟩
def eR (P:Program) (f:FuncId):Bool :=
 match P.funcs[f]? with
 | some fn => fn.name != "runtime.NumGoroutine" && fn.body.isSome
 | none=>false
def Cf (E:dA) (f:FuncId) (xs:List AV) (B:List Blk) (y:AV) (B':List Blk):Prop :=
 eR E.P f=true∧∀ (w:World) (h:Gh) (vs:List Value),bB h vs xs→Mem (cK E w h B) (bL B) w h →
  Calls E.P f ⟨vs⟩ w fun e w'=>∃ v h',e=.returned v∧aG h' v y∧Mem (cK E w h B) (bL B') w' h'
def dS (d j:Nat):Nat:=1000*(d+1)+j
def bZ (ks:List Nat) (d j:Nat):Nat:=if j<ks.length then ks.getD j 0 else dS d (j - ks.length)
def kY (ks:List Nat):Nat→Option Nat:=fun n=>(ks.idxOf? n).map (aB+·)
def rW (ks:List Nat) (d:Nat):Nat→Option Nat:=fun n=>if aB≤n then some (bZ ks d (n - aB)) else none
def fN (ks:List Nat) (bl:Nat→Blk) (args:List AV):List AV×List Nat:=fL (kY ks) bl false args
def bE (ks:List Nat) (bl:Nat→Blk):List (Blk×List Nat):=ks.map fun n=>qG (kY ks) bl true (bl n)
def aT (ks:List Nat) (bl:Nat→Blk) (args:List AV):List Nat:=(fN ks bl args).2++(bE ks bl).flatMap (·.2)
def iA (ks:List Nat) (d:Nat) (y:AV):AV:=(jW (rW ks d) (fun _=>.dead) true y).1
def dF (ks:List Nat) (d:Nat) (B':List Blk):List (Nat×Blk):=(List.range B'.length).map fun j=>(bZ ks d j,(qG (rW ks d) (fun _=>.dead) true (B'.getD j .dead)).1)
structure OA (E:dA) (f:FuncId) (args:List AV) (bl:Nat→Blk) (ks:List Nat) (d:Nat) (y:AV) (B':List Blk):Prop where
 nodup:ks.Nodup
 live:∀ n∈ks,(bl n).live=true
 len:ks.length≤B'.length
 free:∀ j,j<B'.length - ks.length→bl (dS d j)=.free
 low:dS d (B'.length - ks.length)≤aB
 cf:∃ kn,Cf E f (fL (kY ks) bl kn args).1 ((bE ks bl).map (·.1)) y B'
mutual
theorem aKj {r:Nat→Option Nat} {bl:Nat→Blk} {kn:Bool}:∀ (c:AV),(jW r bl kn c).2=(jW r bl false c).2
 | .d _=>rfl
 | .un=>rfl
 | .sk=>rfl
 | .nils=>rfl
 | .dp _=>rfl
 | .ptr ..=>rfl
 | .ref ..=>rfl
 | .mref n=>by simp only [jW]
 | .anyb=>rfl
 | .agg cs=>by simp only [jW]; exact qN cs
 | .tup cs=>by simp only [jW]; exact qN cs
 | .clo f cs=>by simp only [jW]; exact qN cs
 | .bnd f cs=>by simp only [jW]; exact qN cs
theorem qN {r:Nat→Option Nat} {bl:Nat→Blk} {kn:Bool}:∀ (cs:List AV),(fL r bl kn cs).2=(fL r bl false cs).2
 | []=>rfl
 | c::cs=>by simp only [fL]; rw [aKj c,qN cs]
end
mutual
theorem oP {r:Nat→Option Nat} {bl:Nat→Blk} {kn:Bool}:∀ (c:AV) (k:Nat),k∈(jW r bl kn c).2→r k=none∧∃ e s xs f,bl k=.arr e s xs f
 | .d _,k,h=>by simp [jW] at h
 | .un,k,h=>by simp [jW] at h
 | .sk,k,h=>by simp [jW] at h
 | .nils,k,h=>by simp [jW] at h
 | .dp _,k,h=>by simp [jW] at h
 | .ptr n i j,k,h=>by simp only [jW] at h; split at h <;> simp at h
 | .ref n lo len sz,k,h=>by
   simp only [jW] at h
   split at h
   ·simp at h
   ·rename_i hr
    split at h
    ·rename_i x l ht
     simp only [OB] at ht
     split at ht
     ·rename_i e s xs f hb
      split at ht <;> simp only [Option.some.injEq,Prod.mk.injEq,reduceCtorEq] at ht
      obtain ⟨_,rfl⟩:=ht
      simp only [List.mem_singleton] at h
      subst h
      exact ⟨hr,e,s,xs,f,hb⟩
     ·cases ht
    ·simp at h
 | .mref n,k,h=>by simp only [jW] at h; split at h <;> simp at h
 | .anyb,k,h=>by simp [jW] at h
 | .agg cs,k,h=>by simp only [jW] at h; exact mF cs k h
 | .tup cs,k,h=>by simp only [jW] at h; exact mF cs k h
 | .clo f cs,k,h=>by simp only [jW] at h; exact mF cs k h
 | .bnd f cs,k,h=>by simp only [jW] at h; exact mF cs k h
theorem mF {r:Nat→Option Nat} {bl:Nat→Blk} {kn:Bool}:∀ (cs:List AV) (k:Nat),k∈(fL r bl kn cs).2→r k=none∧∃ e s xs f,bl k=.arr e s xs f
 | [],k,h=>by simp [fL] at h
 | c::cs,k,h=>by
   simp only [fL] at h
   rcases List.mem_append.1 h with h | h
   ·exact oP c k h
   ·exact mF cs k h
end
theorem jM {ks:List Nat} (hn:ks.Nodup) {j n:Nat} (hj:ks[j]?=some n):kY ks n=some (aB+j):=by
 obtain ⟨hlt,rfl⟩:=List.getElem?_eq_some_iff.1 hj
 unfold kY
 rw [List.idxOf?_eq_some_iff.2 ⟨hlt,rfl,fun i hi e=>?_⟩]
 ·rfl
 ·exact absurd ((List.getElem_inj hn).1 e) (by omega)
theorem LR {ks:List Nat} {n m:Nat} (h:kY ks n=some m):∃ j,ks[j]?=some n∧m=aB+j:=by
 unfold kY at h
 simp only [Option.map_eq_some_iff] at h
 obtain ⟨j,hj,rfl⟩:=h
 obtain ⟨hlt,h1,_⟩:=List.idxOf?_eq_some_iff.1 hj
 exact ⟨j,List.getElem?_eq_some_iff.2 ⟨hlt,h1⟩,rfl⟩
theorem rI {bl:Nat→Blk} {f:Nat→Nat} {g:Nat→Blk} {n:Nat}:∀ {k:Nat},(∀ j,j<k→f j ≠ n)→bW bl ((List.range k).map fun j=>(f j,g j)) n=bl n
 | 0,_=>by simp [bW]
 | k+1,hn=>by
   rw [List.range_succ,List.map_append,kA]
   simp only [List.map_cons,List.map_nil,bW,dQ]
   rw [if_neg (fun e=>hn k (by omega) e.symm),rI fun j hj=>hn j (by omega)]
theorem rJ {bl:Nat→Blk} {f:Nat→Nat} {g:Nat→Blk}:∀ {k:Nat},(∀ i j,i<k→j<k→f i=f j→i=j)→∀ {j:Nat},j<k →
  bW bl ((List.range k).map fun j=>(f j,g j)) (f j)=g j
 | 0,_,j,hj=>by omega
 | k+1,hinj,j,hj=>by
   rw [List.range_succ,List.map_append,kA]
   simp only [List.map_cons,List.map_nil,bW,dQ]
   by_cases e:f j=f k
   ·rw [if_pos e,hinj j k hj (by omega) e]
   ·rw [if_neg e]
    exact rJ (fun i j hi hj=>hinj i j (by omega) (by omega)) (by
     rcases Nat.lt_or_ge j k with c | c
     ·exact c
     ·exact absurd (by rw [show j=k from by omega]) e)
theorem iM {h:Gh} {B:List Blk} {b:Nat}:b∈mE h B↔∃ j l,j<B.length∧h.L (aB+j)=some l∧l.nul=false∧l.blk=b:=by
 unfold mE
 simp only [List.mem_filterMap,List.mem_range,Option.bind_eq_some_iff]
 constructor
 ·rintro ⟨j,hj,l,hl,h⟩
  split at h <;> simp only [Option.some.injEq,reduceCtorEq] at h
  rename_i hn
  exact ⟨j,l,hj,hl,by simpa using hn,h⟩
 ·rintro ⟨j,l,hj,hl,hn,h⟩
  exact ⟨j,hj,l,hl,by simp [hn,h]⟩
theorem nK {r:Nat→Option Nat} {bl:Nat→Blk} {kn:Bool} {b:Blk} {k:Nat} (hk:k∈(qG r bl kn b).2):r k=none∧∃ e s xs f,bl k=.arr e s xs f:=by
 cases b <;> simp only [qG] at hk <;> first | (cases hk; done) | skip
 ·exact mF _ k hk
 ·obtain ⟨x,_,hx⟩:=List.mem_flatMap.1 hk
  exact mF _ k hx
theorem XA {E:dA} {C:kD} (hP:C.P=E.P) (hG:C.G=E.G) {bl blr:Nat→Blk} (hbr:∀ n,blr n ≠ .dead→blr n=bl n) {w:World} {h:Gh} (m:Mem C bl w h) {f:FuncId} {args:List AV} {vs:List Value} (hr:bB h vs args)
  {ks:List Nat} {d:Nat} {y:AV} {B':List Blk} (ok:OA E f args blr ks d y B') :
  Calls C.P f ⟨vs⟩ w fun e w'=>∃ v h',e=.returned v∧h.le h'∧Mem C (bW bl (eC blr (aT ks blr args)++dF ks d B')) w' h'∧aG h' v (iA ks d y):=by
 have hfr:∀ k∈aT ks blr args,kY ks k=none∧∃ e s xs f,blr k=.arr e s xs f:=by
  intro k hk
  rcases List.mem_append.1 hk with hk | hk
  ·exact mF _ k hk
  ·simp only [bE,List.mem_flatMap,List.mem_map] at hk
   obtain ⟨b,⟨n,_,rfl⟩,hk⟩:=hk
   exact nK hk
 have harr:∀ k∈aT ks blr args,∃ e s xs f,bl k=.arr e s xs f:=fun k hk=>by
  obtain ⟨_,e,s,xs,f,hb⟩:=hfr k hk
  exact ⟨e,s,xs,f,by rw [← hbr k (by rw [hb]; simp)]; exact hb⟩
 have hfw:eC blr (aT ks blr args)=eC bl (aT ks blr args):=by
  unfold eC
  apply List.map_congr_left
  intro k hk
  obtain ⟨_,e,s,xs,f,hb⟩:=hfr k hk
  rw [hbr k (by rw [hb]; simp)]
 rw [hfw]
 have hlr:∀ n,(blr n).live=true→blr n=bl n:=fun n hn=>hbr n (fun e=>by rw [e] at hn; cases hn)
 have hrb:∀ n,(blr n).live=true→lL h w n (blr n):=fun n hn=>by rw [hlr n hn]; exact m.blks n
 obtain ⟨h1,held',m1⟩:=yX (aT ks blr args) bl h m harr
 have held:aKi h h1 blr (aT ks blr args):=⟨held'.le,held'.L,fun n hn e s xs f hb=>held'.els n hn e s xs f (by rw [← hbr n (by rw [hb]; simp)]; exact hb),held'.other⟩
 have hks:∀ (j n:Nat),ks[j]?=some n→(bl n).live=true∧n ∉ aT ks blr args∧∃ l,h.L n=some l:=by
  intro j n hj
  have hl0:=ok.live n (List.mem_of_getElem? hj)
  have hl:(bl n).live=true:=by rw [← hlr n hl0]; exact hl0
  exact ⟨hl,(fun hc=>by have:=(hfr n hc).1; rw [jM ok.nodup hj] at this; cases this),zR (m.blks n) hl⟩
 have hbl1:∀ n,n ∉ aT ks blr args→bW bl (eC bl (aT ks blr args)) n=bl n:=fun n hn=>by rw [kB,if_neg hn]
 have hlive1:∀ n,(bW bl (eC bl (aT ks blr args)) n).live=(bl n).live:=fun n=>by
  rw [kB]; split
  ·cases bl n <;> rfl
  ·rfl
 let hc:Gh:={ μ:=h1.μ,L:=fun n=>if aB≤n then (ks[n - aB]?).bind h1.L else none }
 have hcL:∀ j,hc.L (aB+j)=(ks[j]?).bind h1.L:=fun j=>by
  simp only [hc,if_pos (Nat.le_add_right aB j),Nat.add_sub_cancel_left]
 have hcN:∀ (j n:Nat),ks[j]?=some n→hc.L (aB+j)=h.L n:=fun j n hj=>by rw [hcL,hj,Option.bind_some,held.L]
 have ren:Ren h hc (kY ks):=⟨held.le,fun n k loc hk hl=>by
  obtain ⟨j,hj,rfl⟩:=LR hk
  rw [hcN j n hj]; exact hl⟩
 have hB:∀ (j n:Nat),ks[j]?=some n→((bE ks blr).map (·.1))[j]?=some (qG (kY ks) blr true (blr n)).1:=fun j n hj=>by
  simp [bE,hj]
 have hBlen:((bE ks blr).map (·.1)).length=ks.length:=by simp [bE]
 have hnone:∀ n:Nat,(aB≤n→ks[n - aB]?=none)→bL ((bE ks blr).map (·.1)) n=.free∧hc.L n=none:=fun n hn=>by
  unfold bL
  by_cases c:aB≤n
  ·have hk:=hn c
   have hlen:=List.getElem?_eq_none_iff.1 hk
   refine ⟨?_,?_⟩
   ·rw [if_pos c,List.getElem?_eq_none (by rw [hBlen]; exact hlen)]; rfl
   ·simp only [hc,if_pos c,hk,Option.bind_none]
  ·exact ⟨by rw [if_neg c],by simp only [hc,if_neg c]⟩
 have hsome:∀ (n j k:Nat),ks[j]?=some k→n=aB+j→bL ((bE ks blr).map (·.1)) n=(qG (kY ks) blr true (blr k)).1:=fun n j k hj e=>by
  subst e
  unfold bL
  rw [if_pos (Nat.le_add_right _ _),Nat.add_sub_cancel_left,hB j k hj]; rfl
 have livecv:∀ (r:Nat→Option Nat) (bb:Nat→Blk) (kn:Bool) (b:Blk),(qG r bb kn b).1.live=b.live:=fun r bb kn b=>by cases b <;> rfl
 have mc:Mem (cK E w hc ((bE ks blr).map (·.1))) (bL ((bE ks blr).map (·.1))) w hc:=by
  refine ⟨fun n=>?_,m1.con,fun g cs hg=>m1.glob g cs (by rw [hG]; exact hg),?_,?_,Nat.le_refl _,fun _ _ _=>rfl,fun _ _ _ e=>e,fun _ _ _ _ _ e=>e,fun _ _ _ e=>e,rfl,rfl,rfl,fun g cs hg=>by
   obtain ⟨k1,k2,a,ety,z,k3,k4⟩:=m.know g cs (by rw [hG]; exact hg)
   refine ⟨Nat.lt_of_lt_of_le k1 m.size,fun hb=>?_,a,ety,z,(m.frame g k1 k2).trans k3,k4⟩
   obtain ⟨j,l',hj,hl',hn',rfl⟩:=iM.1 hb
   rw [hBlen] at hj
   have hk:ks[j]?=some ks[j]:=List.getElem?_eq_getElem hj
   rw [hcN j _ hk] at hl'
   rcases m.own _ l' (hks j _ hk).1 hl' hn' with c | c
   ·omega
   ·exact k2 c⟩
  ·cases hk:(if aB≤n then ks[n - aB]? else none) with
   | none =>
     obtain ⟨a,b⟩:=hnone n (fun c=>by rw [if_pos c] at hk; exact hk)
     rw [a]; exact b
   | some k =>
     have hn:aB≤n:=by
      rcases Nat.lt_or_ge n aB with c | c
      ·rw [if_neg (by omega)] at hk; cases hk
      ·exact c
     rw [if_pos hn] at hk
     have en:n=aB+(n - aB):=by omega
     rw [hsome n _ k hk en]
     obtain ⟨hl,hnf,_⟩:=hks _ k hk
     refine yZ (h:=h) (h':=hc) (w:=w) (l:=aT ks blr args) hrb ren held.els (n:=k) (by rw [jM ok.nodup hk,← en]) (ok.live k (List.mem_of_getElem? hk)) (hrb k (ok.live k (List.mem_of_getElem? hk))) (fun q hq=>?_) (fun _ _ _=>rfl) (fun loc e1 e2 o v e3=>?_)
     ·refine List.mem_append_right _ ?_
      simp only [bE,List.mem_flatMap,List.mem_map]
      exact ⟨_,⟨k,List.mem_of_getElem? hk,rfl⟩,hq⟩
     ·have:hc.μ loc.blk o=h.μ loc.blk o:=held.other loc.blk (fun q hq l2 e4 e5=>by
       have hqk:q ≠ k:=fun e=>hnf (e ▸ hq)
       obtain ⟨_,e',s',xs',f',hb'⟩:=hfr q hq
       exact (m.apart q k l2 loc hqk (by rw [← hbr q (by rw [hb']; simp),hb']; rfl) hl e4 e1 e5 e2).symm) o
      rw [this] at e3; exact e3
  ·intro i j l l' hij a1 a2 a3 a4 a5 a6
   have get:∀ i l,(bL ((bE ks blr).map (·.1)) i).live=true→hc.L i=some l→∃ q k:Nat,i=aB+q∧ks[q]?=some k∧h.L k=some l:=by
    intro i l b1 b2
    simp only [hc] at b2
    split at b2
    ·rename_i c
     simp only [Option.bind_eq_some_iff] at b2
     obtain ⟨k,hk,hl⟩:=b2
     exact ⟨i - aB,k,by omega,hk,by rw [← held.L]; exact hl⟩
    ·cases b2
   obtain ⟨q,k,rfl,hk,hl⟩:=get i l a1 a3
   obtain ⟨q',k',rfl,hk',hl'⟩:=get j l' a2 a4
   have hkk:k ≠ k':=fun e=>by
    subst e
    have:=jM ok.nodup hk
    rw [jM ok.nodup hk'] at this
    simp only [Option.some.injEq] at this
    omega
   exact m.apart k k' l l' hkk (hks q k hk).1 (hks q' k' hk').1 hl hl' a5 a6
  ·intro i l b1 b2 b3
   right
   simp only [cK,iM,hBlen]
   simp only [hc] at b2
   split at b2
   ·rename_i c
    have b2':=b2
    simp only [Option.bind_eq_some_iff] at b2
    obtain ⟨k,hk,hl⟩:=b2
    exact ⟨i - aB,l,(List.getElem?_eq_some_iff.1 hk).1,by rw [hcL]; exact b2',b3,rfl⟩
   ·cases b2
 obtain ⟨kn,hcf⟩:=ok.cf
 have ra:bB hc vs (fL (kY ks) blr kn args).1:=nU (h:=h) (w:=w) (l:=aT ks blr args) hrb ren held.els args vs (fun k hk=>List.mem_append_left _ (by rw [qN] at hk; exact hk)) hr
 rw [hP]
 refine (hcf.2 w hc vs ra mc).mono fun e w'=>?_
 rintro ⟨v,h2,rfl,ry,m2⟩
 have hfree:∀ j,j<B'.length - ks.length→h.L (dS d j)=none:=fun j hj=>by
  have:=m.blks (dS d j); rw [← hbr (dS d j) (by rw [ok.free j hj]; simp),ok.free j hj] at this; exact this
 let n0:=dS d 0
 let h3:Gh:={ μ:=h2.μ,L:=fun n=>if n0≤n∧n<n0+(B'.length - ks.length) then h2.L (aB+ks.length+(n - n0)) else h1.L n }
 have hnew:∀ j,dS d j=n0+j:=fun j=>by simp only [n0,dS]; omega
 have h3new:∀ j,j<B'.length - ks.length→h3.L (dS d j)=h2.L (aB+ks.length+j):=fun j hj=>by
  simp only [h3]
  rw [if_pos ⟨by rw [hnew]; omega,by rw [hnew]; omega⟩,hnew,Nat.add_sub_cancel_left]
 have h3old:∀ n,h.L n ≠ none→h3.L n=h.L n:=fun n hn=>by
  simp only [h3]
  rw [if_neg,held.L]
  rintro ⟨c1,c2⟩
  have:=hfree (n - n0) (by omega)
  rw [hnew,show n0+(n - n0)=n from by omega] at this
  exact hn this
 have h3high:∀ n,aB≤n→h3.L n=h.L n:=fun n hn=>by
  simp only [h3]
  rw [if_neg,held.L]
  rintro ⟨c1,c2⟩
  have:=ok.low
  rw [hnew] at this; omega
 have hle:h.le h3:=⟨fun b o u e=>m2.mext b o u (held.le b o u e),fun n l e=>by rw [h3old n (by rw [e]; simp)]; exact e⟩
 have nb_old:∀ (j n:Nat),ks[j]?=some n→bZ ks d j=n:=fun j n hj=>by
  unfold bZ
  rw [if_pos (List.getElem?_eq_some_iff.1 hj).1,List.getD_eq_getElem?_getD,hj]; rfl
 have nb_new:∀ j,bZ ks d (ks.length+j)=dS d j:=fun j=>by
  unfold bZ
  rw [if_neg (by omega)]; congr 1; omega
 have h2keep:∀ (j n:Nat),ks[j]?=some n→h2.L (aB+j)=h.L n:=fun j n hj=>by
  obtain ⟨_,_,l,hl⟩:=hks j n hj
  rw [hl]
  exact m2.lkeep _ l (Nat.le_add_right _ _) (by show hc.L _=_; rw [hcN j n hj]; exact hl)
 have h2free:∀ n,(aB≤n→B'.length≤n - aB)→h2.L n=none:=fun n hn=>by
  have:=m2.blks n
  unfold bL at this
  by_cases c:aB≤n
  ·rw [if_pos c,List.getElem?_eq_none (hn c)] at this; exact this
  ·rw [if_neg c] at this; exact this
 have h3nb:∀ j,j<B'.length→h3.L (bZ ks d j)=h2.L (aB+j):=fun j hj=>by
  by_cases c:j<ks.length
  ·have hk:ks[j]?=some ks[j]:=List.getElem?_eq_getElem c
   obtain ⟨_,_,l,hl⟩:=hks j _ hk
   rw [nb_old j _ hk,h2keep j _ hk,h3old _ (by rw [hl]; simp)]
  ·obtain ⟨q,rfl⟩:∃ q,j=ks.length+q:=⟨j - ks.length,by omega⟩
   rw [nb_new,h3new q (by omega),Nat.add_assoc]
 have renb:Ren h2 h3 (rW ks d):=⟨fun _ _ _ e=>e,fun n k loc hk hl=>by
  unfold rW at hk
  split at hk <;> simp only [Option.some.injEq,reduceCtorEq] at hk
  rename_i c
  subst hk
  by_cases cB:n - aB<B'.length
  ·rw [h3nb _ cB,show aB+(n - aB)=n from by omega]; exact hl
  ·rw [h2free n (fun _=>by omega)] at hl; cases hl⟩
 have rres:aG h3 v (iA ks d y):=yY (h:=h2) (w:=w') (l:=[]) (fun n hn=>by simp [Blk.live] at hn) renb (fun k hk=>by cases hk) y v (fun k hk=>by
  obtain ⟨_,e,s,xs,f,hb⟩:=oP y k hk
  cases hb) ry
 have hinj:∀ i j,i<B'.length→j<B'.length→bZ ks d i=bZ ks d j→i=j:=by
  have old_new:∀ i q,i<ks.length→q<B'.length - ks.length→bZ ks d i ≠ dS d q:=fun i q hi hq e=>by
   have hk:ks[i]?=some ks[i]:=List.getElem?_eq_getElem hi
   obtain ⟨_,_,l,hl⟩:=hks i _ hk
   rw [nb_old i _ hk] at e
   rw [e,hfree q hq] at hl; cases hl
  intro i j hi hj e
  by_cases ci:i<ks.length <;> by_cases cj:j<ks.length
  ·have hi':ks[i]?=some ks[i]:=List.getElem?_eq_getElem ci
   have hj':ks[j]?=some ks[j]:=List.getElem?_eq_getElem cj
   rw [nb_old i _ hi',nb_old j _ hj'] at e
   have a:=jM ok.nodup hi'
   rw [e,jM ok.nodup hj'] at a
   simp only [Option.some.injEq] at a
   omega
  ·obtain ⟨q,rfl⟩:∃ q,j=ks.length+q:=⟨j - ks.length,by omega⟩
   rw [nb_new] at e
   exact absurd e (old_new i q ci (by omega))
  ·obtain ⟨q,rfl⟩:∃ q,i=ks.length+q:=⟨i - ks.length,by omega⟩
   rw [nb_new] at e
   exact absurd e.symm (old_new j q cj (by omega))
  ·obtain ⟨q,rfl⟩:∃ q,i=ks.length+q:=⟨i - ks.length,by omega⟩
   obtain ⟨q',rfl⟩:∃ q,j=ks.length+q:=⟨j - ks.length,by omega⟩
   rw [nb_new,nb_new,hnew,hnew] at e
   omega
 have hat:∀ j,j<B'.length→bW bl (eC bl (aT ks blr args)++dF ks d B') (bZ ks d j)=(qG (rW ks d) (fun _=>.dead) true (B'.getD j .dead)).1:=fun j hj=>by
  rw [kA]; exact rJ hinj hj
 have hother:∀ n,(∀ j,j<B'.length→bZ ks d j ≠ n)→bW bl (eC bl (aT ks blr args)++dF ks d B') n=bW bl (eC bl (aT ks blr args)) n:=fun n hn=>by
  rw [kA]; exact rI hn
 have hBat:∀ j,j<B'.length→bL B' (aB+j)=B'.getD j .dead:=fun j hj=>by
  unfold bL
  rw [if_pos (Nat.le_add_right _ _),Nat.add_sub_cancel_left,List.getElem?_eq_getElem hj,List.getD_eq_getElem?_getD,List.getElem?_eq_getElem hj]; rfl
 have hold_other:∀ n l,(∀ j,j<B'.length→bZ ks d j ≠ n)→(bl n).live=true→h.L n=some l→l.nul=false→l.blk<w.heap.size∧l.blk ∉ mE hc ((bE ks blr).map (·.1)):=by
  intro n l hn hl hL hnul
  obtain ⟨cs,ety,hh⟩:=lR (m.blks n) hl hL hnul
  refine ⟨oR hh,fun hmem=>?_⟩
  obtain ⟨j,l',hj,hl',hn',hb'⟩:=iM.1 hmem
  rw [hBlen] at hj
  have hk:ks[j]?=some ks[j]:=List.getElem?_eq_getElem hj
  rw [hcN j _ hk] at hl'
  have hne:ks[j] ≠ n:=fun e=>hn j (by have:=ok.len; omega) (by rw [nb_old j _ hk,e])
  exact m.apart ks[j] n l' l hne (hks j _ hk).1 hl hl' hL hn' hnul hb'
 have view:∀ n,(∃ j,j<B'.length∧bZ ks d j=n)∨(∀ j,j<B'.length→bZ ks d j ≠ n):=fun n=>by
  by_cases c:∃ j,j<B'.length∧bZ ks d j=n
  ·exact .inl c
  ·exact .inr fun j hj e=>c ⟨j,hj,e⟩
 have h3other:∀ n,(∀ j,j<B'.length→bZ ks d j ≠ n)→h3.L n=h.L n:=fun n hn=>by
  simp only [h3]
  rw [if_neg,held.L]
  rintro ⟨c1,c2⟩
  have hq:=hn (ks.length+(n - n0)) (by omega)
  rw [nb_new,hnew] at hq; omega
 refine ⟨v,h3,rfl,hle,?_,rres⟩
 have base_own:∀ b,b∈mE hc ((bE ks blr).map (·.1))→C.w0.heap.size≤b∨b∈C.base:=fun b hb=>by
  obtain ⟨j,l',hj,hl',hn',rfl⟩:=iM.1 hb
  rw [hBlen] at hj
  have hk:ks[j]?=some ks[j]:=List.getElem?_eq_getElem hj
  rw [hcN j _ hk] at hl'
  exact m.own _ l' (hks j _ hk).1 hl' hn'
 refine ⟨fun n=>?_,m2.con,fun g cs hg=>m2.glob g cs (by show E.G g=_; rw [← hG]; exact hg),?_,?_,Nat.le_trans m.size m2.size,?_,fun b o u e=>hle.μ b o u (m.mext b o u e),?_,?_,m2.os.trans m.os,m2.tape.trans m.tape,m2.output.trans m.output,m.know⟩
 ·rcases view n with ⟨j,hj,rfl⟩ | hn
  ·rw [hat j hj]
   have hb2:=m2.blks (aB+j)
   rw [hBat j hj] at hb2
   have hbr:rW ks d (aB+j)=some (bZ ks d j):=by
    unfold rW
    rw [if_pos (Nat.le_add_right _ _),Nat.add_sub_cancel_left]
   cases hlv:(B'.getD j .dead).live with
   | true=>exact yZ (h:=h2) (h':=h3) (w:=w') (l:=[]) (fun n hn=>by simp [Blk.live] at hn) renb (fun k hk=>by cases hk) hbr hlv hb2 (fun k hk=>by
     obtain ⟨_,e,s,xs,f,hb⟩:=nK hk
     cases hb) (fun _ _ _=>rfl) (fun _ _ _ _ _ e=>e)
   | false =>
     cases hb:B'.getD j .dead with
     | var _=>rw [hb] at hlv; simp [Blk.live] at hlv
     | arr _ _ _ _=>rw [hb] at hlv; simp [Blk.live] at hlv
     | iter _ _=>rw [hb] at hlv; simp [Blk.live] at hlv
     | varr _ _ _=>rw [hb] at hlv; simp [Blk.live] at hlv
     | mp _=>rw [hb] at hlv; simp [Blk.live] at hlv
     | dead =>
       rw [hb] at hb2
       obtain ⟨l,hl⟩:=hb2
       exact ⟨l,by rw [h3nb j hj]; exact hl⟩
     | free =>
       rw [hb] at hb2
       show h3.L _=none
       rw [h3nb j hj]; exact hb2
  ·rw [hother n hn]
   refine iE (m1.blks n) ⟨fun b o u e=>m2.mext b o u e,fun k l e=>?_⟩ (fun e=>by rw [h3other n hn,← held.L]; exact e) (fun l a1 a2 a3=>?_) (fun l a1 a2 a3 o u a4=>?_)
   ·rw [held.L] at e
    rw [h3old k (by rw [e]; simp)]; exact e
   ·rw [hlive1] at a1
    rw [held.L] at a2
    obtain ⟨b1,b2⟩:=hold_other n l hn a1 a2 a3
    exact m2.frame l.blk b1 b2
   ·rw [hlive1] at a1
    rw [held.L] at a2
    obtain ⟨b1,b2⟩:=hold_other n l hn a1 a2 a3
    exact m2.mold l.blk b1 b2 o u a4
 ·intro i j l l' hij a1 a2 a3 a4 a5 a6
  have old_vs_new:∀ i l,(∀ q,q<B'.length→bZ ks d q ≠ i)→(bW bl (eC bl (aT ks blr args)++dF ks d B') i).live=true→h3.L i=some l→l.nul=false →
    ∀ q l',q<B'.length→(bL B' (aB+q)).live=true→h2.L (aB+q)=some l'→l'.nul=false→l.blk ≠ l'.blk:=by
   intro i l hi b1 b2 b3 q l' hq b4 b5 b6 e
   rw [hother i hi,hlive1] at b1
   rw [h3other i hi] at b2
   obtain ⟨c1,c2⟩:=hold_other i l hi b1 b2 b3
   rcases m2.own _ l' b4 b5 b6 with c | c
   ·have:w.heap.size≤l'.blk:=c
    omega
   ·rw [← e] at c; exact c2 c
  have lv:∀ q,q<B'.length→(bW bl (eC bl (aT ks blr args)++dF ks d B') (bZ ks d q)).live=true→(bL B' (aB+q)).live=true:=fun q hq e=>by
   rw [hat q hq,livecv] at e; rw [hBat q hq]; exact e
  rcases view i with ⟨q,hq,rfl⟩ | hi <;> rcases view j with ⟨q',hq',rfl⟩ | hj
  ·rw [h3nb q hq] at a3
   rw [h3nb q' hq'] at a4
   exact m2.apart _ _ l l' (fun e=>hij (by have:q=q':=by omega
                                           rw [this])) (lv q hq a1) (lv q' hq' a2) a3 a4 a5 a6
  ·rw [h3nb q hq] at a3
   exact (old_vs_new j l' hj a2 a4 a6 q l hq (lv q hq a1) a3 a5).symm
  ·rw [h3nb q' hq'] at a4
   exact old_vs_new i l hi a1 a3 a5 q' l' hq' (lv q' hq' a2) a4 a6
  ·rw [hother i hi,hlive1] at a1
   rw [hother j hj,hlive1] at a2
   rw [h3other i hi] at a3
   rw [h3other j hj] at a4
   exact m.apart i j l l' hij a1 a2 a3 a4 a5 a6
 ·intro i l a1 a2 a3
  rcases view i with ⟨q,hq,rfl⟩ | hi
  ·rw [hat q hq,livecv] at a1
   rw [h3nb q hq] at a2
   rcases m2.own _ l (by rw [hBat q hq]; exact a1) a2 a3 with c | c
   ·exact .inl (Nat.le_trans m.size c)
   ·exact base_own _ c
  ·rw [hother i hi,hlive1] at a1
   rw [h3other i hi] at a2
   exact m.own i l a1 a2 a3
 ·intro b hb1 hb2
  have hb3:b ∉ mE hc ((bE ks blr).map (·.1)):=fun e=>by
   rcases base_own b e with c | c
   ·omega
   ·exact hb2 c
  exact (m2.frame b (by have:=m.size; show b<w.heap.size; omega) hb3).trans (m.frame b hb1 hb2)
 ·intro b hb1 hb2 o u hu
  have hb3:b ∉ mE hc ((bE ks blr).map (·.1)):=fun e=>by
   rcases base_own b e with c | c
   ·omega
   ·exact hb2 c
  exact m1.mold b hb1 hb2 o u (m2.mold b (by have:=m.size; show b<w.heap.size; omega) hb3 o u hu)
 ·intro n l hn hl
  rw [h3high n hn]
  exact m.lkeep n l hn hl
def zW (s:Nat→AV):Option Tmp→AV→Nat→AV
 | some d,v=>dQ s d v
 | none,_=>s
def St.put (st:St) (dst:Option Tmp) (v:AV) (wr:List (Nat×Blk)):St:={ s:=zW st.s dst v,b:=bW st.b wr }
structure Inv (C:kD) (N nb:Nat) (st:St) (a:Act) (w:World):Prop where
 high:∀ n l,aB≤n→C.h0.L n=some l→n<aB+nb
 defers:a.defers=C.dfr
 size:a.tmps.size=N
 ex:∃ h,(∀ i,aG h (a.tmps.getD i undef) (st.s i))∧Mem C st.b w h
theorem vB {C:kD} {bl:Nat→Blk} {w:World} {h:Gh} (m:Mem C bl w h) {a:Act} {s:Nat→AV} (hs:∀ i,aG h (a.tmps.getD i undef) (s i)) (x:Operand):aG h (a.eval x) (mX C.G s x):=by
 cases x with
 | tmp t=>exact hs t
 | const v=>exact uU v
 | global g =>
   simp only [mX,Act.eval]
   split
   ·rename_i cs hg
    simp only [aG]
    exact ⟨g,0,rfl,m.glob g cs hg⟩
   ·simp [aG]
 | func f =>
   simp only [mX,Act.eval,aG]
   exact ⟨[],rfl,by simp [bB]⟩
theorem CC {h:Gh} {a:Act} {s:Nat→AV} {dst:Option Tmp} {u:Value} {v:AV} (hs:∀ i,aG h (a.tmps.getD i undef) (s i)) (hd:∀ d,dst=some d→d<a.tmps.size) (hu:aG h u v) :
  ∀ i,aG h ((a.put dst u).tmps.getD i undef) (zW s dst v i):=by
 intro i
 cases dst with
 | none=>exact hs i
 | some d =>
   have hlt:=hd d rfl
   simp only [Act.put,zW,dQ]
   by_cases e:i=d
   ·subst e
    simpa [hlt] using hu
   ·rw [if_neg e]
    have:=hs i
    simpa [Array.getElem?_setIfInBounds_ne (Ne.symm e)] using this
theorem HS {a:Act} {dst:Option Tmp} {u:Value}:(a.put dst u).tmps.size=a.tmps.size:=by
 cases dst <;> simp [Act.put]
theorem xV {a:Act} {dst:Option Tmp} {u:Value}:(a.put dst u).defers=a.defers:=by
 cases dst <;> rfl
def PI (E:dA) (ρ:Operand→AV) (o:Oper) (bl:Nat→Blk) (res:AV) (wr:List (Nat×Blk)):Prop :=
 ∃ c fo f xs ks d y B',o.op=.call c∧c.callee=.value fo∧tB (ρ fo) (c.args.toList.map ρ)=some (f,xs)∧(o.dst=some d∨B'.length=ks.length) ∧
   OA E f xs bl ks d y B'∧res=iA ks d y∧wr=eC bl (aT ks bl xs)++dF ks d B'
def aOo (E:dA) (ρ:Operand→AV) (o:Oper) (bl:Nat→Blk) (res:AV) (wr:List (Nat×Blk)):Prop :=
 zK E.P ρ o bl=some (res,wr)∨PI E ρ o bl res wr
theorem wH {P:Program} {f:FuncId} (he:eR P f=true) (args:Array Value) (w:World):(callFunc f args).run P w=.ok (.enter f args) w:=by
 unfold eR at he
 split at he
 ·rename_i fn hf
  simp only [Bool.and_eq_true,bne_iff_ne,ne_eq] at he
  have hb:fn.body.isNone=false:=by cases e:fn.body <;> simp_all
  simp only [callFunc,Sem.run_bind,run_program,Result.andThen_ok,hf]
  rw [if_neg (by simpa using he.1),if_neg (by simp [hb])]
  rfl
 ·cases he
def eK (ops:Array Oper) (o:Oper) (s:Nat→AV):Option Bool :=
 match o.guard with
 | none=>some true
 | some (j,want)=>match (ops[j]?).bind (·.dst) with
   | some t=>match s t with
     | .d (.bool b)=>some (b==want)
     | .sk=>some false
     | _=>none
   | none=>some false
theorem nN {h:Gh} {ops:Array Oper} {o:Oper} {a:Act} {s:Nat→AV} {b:Bool} (hs:∀ i,aG h (a.tmps.getD i undef) (s i)) (hw:eK ops o s=some b):Region.wanted o (yielded ops a.tmps)=b:=by
 unfold eK at hw
 unfold Region.wanted
 split at hw
 ·rename_i hg
  simp only [Option.some.injEq] at hw
  simp [hg,hw]
 ·rename_i j want hg
  simp only [hg]
  unfold yielded
  split at hw
  ·rename_i t ht
   have hst:=hs t
   split at hw
   ·rename_i b' hb
    simp only [Option.some.injEq] at hw
    subst hw
    rw [hb] at hst
    simp only [aG,aU] at hst
    have hv:a.tmps[t]?=some (.bool b'):=by
     cases e:a.tmps[t]? with
     | none=>simp [e,undef] at hst
     | some v=>simp [e] at hst; rw [hst]
    simp only [ht,Option.bind_some,hv]
    cases b' <;> cases want <;> rfl
   ·rename_i hb
    simp only [Option.some.injEq] at hw
    subst hw
    rw [hb] at hst
    simp only [aG] at hst
    simp only [ht,Option.bind_some]
    cases e:a.tmps[t]? with
    | none=>rfl
    | some v=>simp [e,undef] at hst; subst hst; rfl
   ·cases hw
  ·rename_i ht
   simp only [Option.some.injEq] at hw
   subst hw
   simp [ht]
def Step (E:dA) (ops:Array Oper) (o:Oper) (st st':St) (t wn:List Nat):Prop :=
 (eK ops o st.s=some true∧∃ res wr,aOo E (mX E.G st.s) o (bM t st.b) res wr∧(∀ p∈wr,p.1∈t)∧wn=wr.map (·.1)∧st'=st.put o.dst res wr) ∨
 (eK ops o st.s=some false∧t=[]∧wn=[]∧st'=st.put o.dst .sk [])
theorem HT {α:Type} {f:Nat→α} {l:List (Nat×α)} {n:Nat} (h:∀ p∈l,p.1 ≠ n):bW f l n=f n:=by
 induction l generalizing f with
 | nil=>rfl
 | cons p l ih =>
   rw [show bW f (p::l)=bW (dQ f p.1 p.2) l from rfl,ih fun q hq=>h q (List.mem_cons_of_mem _ hq)]
   simp [dQ,Ne.symm (h p List.mem_cons_self)]
theorem mZ {E:dA} {C:kD} (hP:C.P=E.P) (hG:C.G=E.G) {N nb:Nat} (hN:N≤aB) {ops:Array Oper} {i:Nat} {o:Oper} (hi:ops[i]?=some o) (hd:∀ d,o.dst=some d→d<N) {st st':St} {t wn:List Nat} {a:Act} {w:World}
  (inv:Inv C N nb st a w) (hs:Step E ops o st st' t wn) {K:Act→World→Prop} {Q:Exit→Act→World→Prop} (hK:∀ a' w',Inv C N nb st' a' w'→K a' w'):wpOp E.P ops Q i K a w:=by
 obtain ⟨hhi,hdef,hsz,h,hsl,m⟩:=inv
 have hd':∀ d,o.dst=some d→d<a.tmps.size:=fun d e=>by rw [hsz]; exact hd d e
 have hdf:∀ d,o.dst=some d→d<aB:=fun d e=>Nat.lt_of_lt_of_le (hd d e) hN
 unfold wpOp
 simp only [hi]
 rcases hs with ⟨hw,res,wr,heff,hwr,rfl,rfl⟩ | ⟨hw,rfl,rfl,rfl⟩
 ·rw [nN hsl hw]
  simp only [if_true]
  left
  have hρ:∀ x,aG h (a.eval x) (mX E.G st.s x):=fun x=>by rw [← hG]; exact vB m hsl x
  rcases heff with he | ⟨c,fo,f,xs,ks,d,y,B',hop,hcal,hfo,hdst,ok,rfl,rfl⟩
  ·rw [← hP] at he ⊢
   obtain ⟨nx,u,w',h',hrun,hnx,le,m',ru⟩:=XF (ev:=a.eval) m hρ hdf hwr he
   unfold Oper.wp
   rw [hrun]
   have inv':Inv C N nb (st.put o.dst res wr) (a.put o.dst u) w':=⟨hhi,by rw [xV]; exact hdef,by rw [HS]; exact hsz,h',CC (fun i=>lU le _ _ (hsl i)) hd' ru,m'⟩
   rcases hnx with rfl | ⟨rfl,rfl⟩
   ·exact hK _ _ inv'
   ·exact hK _ _ inv'
  ·-- a call
   have hfv:=hρ fo
   obtain ⟨vs,fst,carr,hfv,hra,rfl⟩:∃ (vs fst carr:List Value),a.eval fo=.func (.func f) ⟨fst⟩ ⟨carr⟩∧bB h vs xs∧vs=fst++c.args.toList.map a.eval++carr:=by
    cases hv:mX E.G st.s fo <;> rw [hv] at hfo hfv <;> simp only [tB,Option.some.injEq,Prod.mk.injEq,reduceCtorEq] at hfo
    ·obtain ⟨rfl,rfl⟩:=hfo
     simp only [aG] at hfv
     obtain ⟨carr,hfv,hcr⟩:=hfv
     exact ⟨_,[],carr,hfv,fC (jS hρ _) hcr,rfl⟩
    ·obtain ⟨rfl,rfl⟩:=hfo
     simp only [aG] at hfv
     obtain ⟨carr,hfv,hcr⟩:=hfv
     exact ⟨_,carr,[],hfv,fC hcr (jS hρ _),by simp⟩
   have hrun:(execOp a.eval o).run E.P w=.ok (.enter f ⟨fst++c.args.toList.map a.eval++carr⟩) w:=by
    have he:=wH (Exists.elim ok.cf fun _ h=>h.1) (⟨fst++c.args.toList.map a.eval++carr⟩:Array Value) w
    rw [← he]
    obtain ⟨dst,op,type,pos,after,guard⟩:=o
    simp only at hop
    subst hop
    obtain ⟨callee,args,argTypes⟩:=c
    simp only at hcal
    subst hcal
    simp only [execOp,resolve,hfv,Deferred.ofValue,Sem.run_bind,Sem.run_pure,Result.andThen_ok,invoke]
    congr 2
    apply Array.ext'
    simp
   have hcall:=XA hP hG (blr:=bM t st.b) (fun n hn=>(cN (t:=t) (bl:=st.b) rfl hn).symm) m hra ok
   unfold Oper.wp
   rw [hrun]
   simp only [Oper.upon]
   rw [← hP]
   refine hcall.mono fun e w'=>?_
   rintro ⟨v,h',rfl,le,m',rv⟩
   exact hK _ _ ⟨hhi,by rw [xV]; exact hdef,by rw [HS]; exact hsz,h',CC (fun i=>lU le _ _ (hsl i)) hd' rv,m'⟩
 ·rw [nN hsl hw]
  simp only [Bool.false_eq_true,if_false]
  exact hK _ _ ⟨hhi,by rw [xV]; exact hdef,by rw [HS]; exact hsz,h,CC hsl hd' (by simp [aG]),m⟩
end Go.Ab
