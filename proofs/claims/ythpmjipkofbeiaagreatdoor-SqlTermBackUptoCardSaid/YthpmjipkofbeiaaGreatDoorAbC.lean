import Derived.Test.YthpmjipkofbeiaaGreatDoorAbA
import Derived.MapKept
set_option linter.all false
namespace Go.Ab
theorem rangeE_sound {C:Ctx} {bl:Nat→Blk} {w:World} {h:Gh} (m:Mem C bl w h) {t:TypeId} {ti:TI} (hti:tinf C.P t=some ti) {dst:Option Tmp} (hdst:∀ n,dst=some n→n<firstName)
  {tl:List Nat} {x v:AV} {wr:List (Nat×Blk)} {u:Value} (hx:RepA h u x) (he:rangeE ti.kind dst (restr tl bl) x=some (v,wr)):Good C bl h wr v ((Instr.range t u).run C.P w):=by
 unfold rangeE at he
 split at he
 ·rename_i s hk
  obtain ⟨n,rfl,hfree,rfl,rfl⟩:=newE_some he
  have hfree:=restr_eq hfree (by simp)
  obtain ⟨i,d,h1,h2,h3⟩:=tinf_some hti
  have hd:d=.string:=by
   subst h3
   cases d <;> simp [tkOf] at hk ⊢
  subst hd
  simp only [RepA,RepD] at hx
  subst hx
  have hL:h.L n=none:=by have:=m.blks n; rw [hfree] at this; exact this
  have hsz:∀ o,h.μ w.heap.size o=none:=fun o=>by
   cases e:h.μ w.heap.size o with
   | none=>rfl
   | some v=>exact absurd (mu_lt m e) (by omega)
  have m':=m.allocG hfree (.iter s 0) (.stringIter ⟨s.toArray⟩ 0) 0 0 ⟨⟨w.heap.size,0,0,false⟩,by simp [Gh.add],rfl,by simpa using heap_alloc_new w _,hsz⟩ (hdst n rfl)
  refine ⟨.pointer (some ⟨w.heap.size,0,none⟩),_,_,?_,Gh.le_add hL,m',?_⟩
  ·simp [Instr.range,run_underlying h2]
  ·simp [RepA,Gh.add]
 ·cases he
theorem nextE_sound {C:Ctx} {bl:Nat→Blk} {w:World} {h:Gh} (m:Mem C bl w h) {t:TypeId} {tl:List Nat} {x v:AV} {wr:List (Nat×Blk)} {u:Value} (hx:RepA h u x) (htl:∀ p∈wr,p.1∈tl)
  (he:nextE (restr tl bl) x=some (v,wr)):Good C bl h wr v ((Instr.next u true t).run C.P w):=by
 unfold nextE at he
 split at he
 ·rename_i n
  split at he
  ·rename_i s i hb
   have hb':=restr_eq hb (by simp)
   have hbn:=m.blks n
   rw [hb'] at hbn
   obtain ⟨l,h1,h2,h3,h4⟩:=hbn
   simp only [RepA] at hx
   obtain ⟨l',h5,h6,h7⟩:=hx
   rw [h1] at h5; cases h5
   subst h7
   split at he
   ·rename_i hi
    simp only [Option.some.injEq,Prod.mk.injEq] at he
    obtain ⟨rfl,rfl⟩:=he
    have m':=m.rewrite (w':={ w with heap:=w.heap.setIfInBounds l.blk (.stringIter ⟨s.toArray⟩ (i+(Utf8.decode ⟨s.toArray⟩ i).2)) }) (n:=n) (l:=l) (by rw [hb']; rfl) h1 h2 (.iter s (i+(Utf8.decode ⟨s.toArray⟩ i).2)) (by simp)
     (fun k hk=>by simp [Array.getElem?_setIfInBounds,Ne.symm hk]) (fun o v hv=>by rw [h4] at hv; cases hv) rfl rfl rfl
     ⟨l,h1,h2,by simp [Array.getElem?_setIfInBounds,heap_lt h3],h4⟩
    refine ⟨.tuple #[.bool true,goInt i,.int .i32 (Utf8.decode ⟨s.toArray⟩ i).1],_,h,?_,.refl h,m',?_⟩
    ·have hz:ByteArray.size ⟨s.toArray⟩=s.length:=by simp [ByteArray.size]
     simp [Instr.next,getObj,setObj,Sem.run,h3,hz,hi]
    ·simp [RepA,RepAs,RepD,goInt]
   ·rename_i hi
    simp only [Option.some.injEq,Prod.mk.injEq] at he
    obtain ⟨rfl,rfl⟩:=he
    have hz:ByteArray.size ⟨s.toArray⟩=s.length:=by simp [ByteArray.size]
    have e:(Instr.next (.pointer (some ⟨l.blk,0*l.sz+0,none⟩)) true t).run C.P w=.ok (.tuple #[.bool false]) w:=by
     simp [Instr.next,getObj,Sem.run,h3,hz,hi]
    rw [e]
    exact Good.still m (by simp [RepA,RepAs,RepD])
  ·cases he
 ·cases he
end Go.Ab
namespace Go.Ab
open Go.MapKept
theorem keyV_of {μ:Nat→Nat→Option Value} {v:Value} {d:D} {t:TypeDesc} (hr:RepD μ v d) (hk:keyOk t d=true):d.keyV=some v∧IsKey t v:=by
 cases d <;> cases t <;> simp only [keyOk] at hk <;> first | (cases hk; done) | skip
 all_goals simp only [RepD] at hr
 all_goals (subst hr; simp_all [D.keyV,IsKey])
theorem isKey_of {d:D} {v:Value} {t:TypeDesc} (hv:d.keyV=some v) (hk:keyOk t d=true):IsKey t v:=by
 cases d <;> cases t <;> simp only [keyOk] at hk <;> first | (cases hk; done) | skip
 all_goals (simp only [D.keyV,Option.some.injEq] at hv; subst hv; simp_all [IsKey])
theorem eqK_iff {a b:D} {x y:Value} (ha:a.keyV=some x) (hb:b.keyV=some y):eqK a b=true↔x=y:=by
 cases a <;> simp only [D.keyV,Option.some.injEq,reduceCtorEq] at ha
 all_goals
  subst ha
  cases b <;> simp only [D.keyV,Option.some.injEq,reduceCtorEq] at hb <;> subst hb <;> simp [eqK,← List.toArray_inj (as:=_)]
theorem RepEnts_iff {μ:Nat→Nat→Option Value}:∀ {es:List MapEntry} {xs:List (D×D)},RepEnts μ es xs↔es.length=xs.length∧∀ (i:Nat) (e:MapEntry) (x:D×D),es[i]?=some e→xs[i]?=some x→x.1.keyV=some e.key∧RepD μ e.val x.2
 | [],[]=>by simp [RepEnts]
 | [],x::xs=>by simp [RepEnts]
 | e::es,[]=>by simp [RepEnts]
 | e::es,x::xs=>by
   simp only [RepEnts,RepEnts_iff (es:=es) (xs:=xs)]
   constructor
   ·rintro ⟨h1,h2,h3,h4⟩
    refine ⟨by simp [h3],fun i e' x' he hx=>?_⟩
    cases i with
    | zero=>simp at he hx; subst he hx; exact ⟨h1,h2⟩
    | succ i=>exact h4 i e' x' (by simpa using he) (by simpa using hx)
   ·rintro ⟨hl,h⟩
    exact ⟨(h 0 e x rfl rfl).1,(h 0 e x rfl rfl).2,by simpa using hl,fun i e' x' he hx=>h (i+1) e' x' (by simpa using he) (by simpa using hx)⟩
theorem mpSet_none {k v:D}:∀ {es:List (D×D)},(∀ e∈es,eqK k e.1=false)→mpSet k v es=es++[(k,v)]
 | [],_=>rfl
 | e::r,h=>by
   rw [mpSet,if_neg (by rw [h e List.mem_cons_self]; decide),mpSet_none fun x hx=>h x (List.mem_cons_of_mem _ hx)]; rfl
theorem mpSet_at {k v:D}:∀ {es:List (D×D)} {j:Nat} {e:D×D},es[j]?=some e→eqK k e.1=true→(∀ i x,i<j→es[i]?=some x→eqK k x.1=false)→mpSet k v es=es.set j (k,v)
 | [],_,_,h,_,_=>by simp at h
 | e0::r,0,e,h,he,_=>by
   simp at h; subst h
   rw [mpSet,if_pos he]; rfl
 | e0::r,j+1,e,h,he,hn=>by
   rw [mpSet,if_neg (by rw [hn 0 e0 (by omega) rfl]; decide),mpSet_at (by simpa using h) he fun i x hi hx=>hn (i+1) x (by omega) (by simpa using hx)]; rfl
theorem mpDel_none {k:D}:∀ {es:List (D×D)},(∀ e∈es,eqK k e.1=false)→mpDel k es=es
 | [],_=>rfl
 | e::r,h=>by
   rw [mpDel,if_neg (by rw [h e List.mem_cons_self]; decide),mpDel_none fun x hx=>h x (List.mem_cons_of_mem _ hx)]
theorem mpDel_at {k:D}:∀ {es:List (D×D)} {j:Nat} {e:D×D},es[j]?=some e→eqK k e.1=true→(∀ i x,i<j→es[i]?=some x→eqK k x.1=false)→mpDel k es=es.eraseIdx j
 | [],_,_,h,_,_=>by simp at h
 | e0::r,0,e,h,he,_=>by
   simp at h; subst h
   rw [mpDel,if_pos he]; rfl
 | e0::r,j+1,e,h,he,hn=>by
   rw [mpDel,if_neg (by rw [hn 0 e0 (by omega) rfl]; decide),mpDel_at (by simpa using h) he fun i x hi hx=>hn (i+1) x (by omega) (by simpa using hx)]; rfl
theorem mapKey_some {P:Program} {t:TypeId} {kd:TypeDesc} {z:Option D} (h:mapKey? P t=some (kd,z)):∃ k e,P.underlying t=some (.map k e)∧P.underlying k=some kd∧∀ d,z=some d→∃ i zv,P.info? e=some i∧i.zero=some zv∧constAV zv=.d d:=by
 unfold mapKey? at h
 split at h
 ·rename_i k e' hk
  simp only [Option.map_eq_some_iff,Prod.mk.injEq] at h
  obtain ⟨d,h1,rfl,rfl⟩:=h
  refine ⟨k,e',hk,h1,fun d hd=>?_⟩
  simp only [Option.bind_eq_some_iff] at hd
  obtain ⟨zv,⟨i,h2,h3⟩,h4⟩:=hd
  refine ⟨i,zv,h2,h3,?_⟩
  split at h4
  ·rename_i d' hd'
   rw [hd']
   simp only [Option.some.injEq] at h4
   rw [h4]
  ·cases h4
 ·cases h
theorem mpGet_none {k:D}:∀ {es:List (D×D)},(∀ e∈es,eqK k e.1=false)→mpGet k es=none
 | [],_=>rfl
 | e::r,h=>by
   rw [mpGet,if_neg (by rw [h e List.mem_cons_self]; decide),mpGet_none fun x hx=>h x (List.mem_cons_of_mem _ hx)]
theorem mpGet_at {k:D}:∀ {es:List (D×D)} {j:Nat} {e:D×D},es[j]?=some e→eqK k e.1=true→(∀ i x,i<j→es[i]?=some x→eqK k x.1=false)→mpGet k es=some e.2
 | [],_,_,h,_,_=>by simp at h
 | e0::r,0,e,h,he,_=>by
   simp at h; subst h
   rw [mpGet,if_pos he]
 | e0::r,j+1,e,h,he,hn=>by
   rw [mpGet,if_neg (by rw [hn 0 e0 (by omega) rfl]; decide),mpGet_at (by simpa using h) he fun i x hi hx=>hn (i+1) x (by omega) (by simpa using hx)]
theorem newMap_sound {C:Ctx} {bl:Nat→Blk} {w:World} {h:Gh} (m:Mem C bl w h) {n:Nat} (hn:n<firstName) (hfree:bl n=.free) (t:TypeId):Good C bl h [(n,.mp [])] (.mref n) ((Instr.makeMap t none).run C.P w):=by
 have hL:h.L n=none:=by have:=m.blks n; rw [hfree] at this; exact this
 have hsz:∀ o,h.μ w.heap.size o=none:=fun o=>by
  cases e:h.μ w.heap.size o with
  | none=>rfl
  | some v=>exact absurd (mu_lt m e) (by omega)
 have m':=m.allocG hfree (.mp []) (.map #[] 0) 0 1 ⟨⟨w.heap.size,0,1,false⟩,#[],0,by simp [Gh.add],rfl,by simpa using (MapKept.heap_alloc w (.map #[] 0)).1,trivial,.nil,hsz⟩ hn
 refine ⟨.map (some w.heap.size),_,_,?_,Gh.le_add hL,m',?_⟩
 ·simp [Instr.makeMap]
 ·simp [RepA,Gh.add]
structure At? (h:Gh) (w:World) (n:Nat) (es:List (D×D)) (l:Loc) (es':Array MapEntry) (clock:Nat):Prop where
 L:h.L n=some l
 nul:l.nul=false
 heap:w.heap[l.blk]?=some (.map es' clock)
 ents:RepEnts h.μ es'.toList es
 apart:es.Pairwise (fun a b=>a.1.keyV ≠ b.1.keyV)
 mu:∀ o,h.μ l.blk o=none
theorem At?.before {h:Gh} {w:World} {n:Nat} {es:List (D×D)} {l:Loc} {es':Array MapEntry} {clock:Nat} (a:At? h w n es l es' clock) {k:D} {kv:Value} (hk:k.keyV=some kv) {j:Nat} {e:D×D} (hj:es[j]?=some e) (he:eqK k e.1=true) :
  ∀ i x,i<j→es[i]?=some x→eqK k x.1=false:=fun i x hi hx=>by
 have hl:=(RepEnts_iff.1 a.ents).1
 have hil:i<es.length:=(List.getElem?_eq_some_iff.1 hx).1
 have hjl:j<es.length:=(List.getElem?_eq_some_iff.1 hj).1
 have h1:=(RepEnts_iff.1 a.ents).2 i _ x (List.getElem?_eq_getElem (by omega)) hx
 have h2:=(RepEnts_iff.1 a.ents).2 j _ e (List.getElem?_eq_getElem (by omega)) hj
 have hp:=List.pairwise_iff_getElem.1 a.apart i j hil hjl hi
 have e1:es[i]=x:=by rw [List.getElem?_eq_getElem hil] at hx; exact Option.some.inj hx
 have e2:es[j]=e:=by rw [List.getElem?_eq_getElem hjl] at hj; exact Option.some.inj hj
 rw [e1,e2] at hp
 cases hc:eqK k x.1 with
 | false=>rfl
 | true =>
   have a1:=(eqK_iff hk h1.1).1 hc
   have a2:=(eqK_iff hk h2.1).1 he
   exact absurd (by rw [h1.1,h2.1,← a1,← a2]) hp
theorem At?.put {C:Ctx} {bl:Nat→Blk} {w:World} {h:Gh} (m:Mem C bl w h) {n:Nat} {es:List (D×D)} (hbl:bl n=.mp es) {l:Loc} {es':Array MapEntry} {clock:Nat} (a:At? h w n es l es' clock) {fs:List (D×D)} {fs':Array MapEntry} {clock':Nat}
  (hr:RepEnts h.μ fs'.toList fs) (hp:fs.Pairwise (fun a b=>a.1.keyV ≠ b.1.keyV)):Mem C (upd bl n (.mp fs)) { w with heap:=w.heap.setIfInBounds l.blk (.map fs' clock') } h:=by
 have hs:=MapKept.heap_set (o':=.map fs' clock') a.heap
 exact m.rewrite (by rw [hbl]; rfl) a.L a.nul (.mp fs) (by simp) (fun k hk=>hs.2 k hk) (fun o v hv=>by rw [a.mu] at hv; cases hv) rfl rfl rfl ⟨l,fs',clock',a.L,a.nul,hs.1,hr,hp,a.mu⟩
theorem mapUpdE_sound {C:Ctx} {bl:Nat→Blk} {w:World} {h:Gh} (m:Mem C bl w h) {tl:List Nat} {t:TypeId} {xm xk xv v:AV} {wr:List (Nat×Blk)} {mv kv vv:Value}
  (hm:RepA h mv xm) (hk:RepA h kv xk) (hv:RepA h vv xv) (he:mapUpdE C.P t (restr tl bl) xm xk xv=some (v,wr)) :
  v=.sk∧∃ w',(Instr.mapUpdate t mv kv vv).run C.P w=.ok () w'∧Mem C (upds bl wr) w' h:=by
 unfold mapUpdE at he
 split at he
 ·rename_i kd z n k d hmk
  split at he
  ·rename_i es hbl
   split at he <;> simp only [Option.some.injEq,Prod.mk.injEq,reduceCtorEq] at he
   rename_i hc
   obtain ⟨hc1,hc2⟩:=hc
   obtain ⟨rfl,rfl⟩:=he
   refine ⟨rfl,?_⟩
   have hbn:=restr_eq hbl (by simp)
   obtain ⟨kt,et,ht,hkd,hz⟩:=mapKey_some hmk
   have hb:=m.blks n
   rw [hbn] at hb
   obtain ⟨l,es',clock,a1,a2,a3,a4,a5,a6⟩:=hb
   have A:At? h w n es l es' clock:=⟨a1,a2,a3,a4,a5,a6⟩
   simp only [RepA] at hm hk hv
   obtain ⟨l',hL,_,rfl⟩:=hm
   rw [a1] at hL; cases hL
   obtain ⟨hkv,hik⟩:=keyV_of hk hc1
   have hlen:=(RepEnts_iff.1 a4).1
   have hget:=(RepEnts_iff.1 a4).2
   have hall:∀ x∈es'.toList,IsKey kd x.key:=fun x hx=>by
    obtain ⟨i,hi⟩:=List.mem_iff_getElem?.1 hx
    have hil:i<es.length:=by have:=(List.getElem?_eq_some_iff.1 hi).1; omega
    have:=hget i x _ hi (List.getElem?_eq_getElem hil)
    rw [List.all_eq_true] at hc2
    exact isKey_of this.1 (hc2 _ (List.getElem_mem hil))
   rcases findNow_spec hik es'.toList 0 hall with ⟨h1,h2⟩ | ⟨j,e0,h1,h2,h3⟩
   ·have hno:∀ e∈es,eqK k e.1=false:=fun e hemem=>by
     obtain ⟨i,hi⟩:=List.mem_iff_getElem?.1 hemem
     have hil:i<es'.toList.length:=by have:=(List.getElem?_eq_some_iff.1 hi).1; omega
     have:=hget i _ e (List.getElem?_eq_getElem hil) hi
     cases hcc:eqK k e.1 with
     | false=>rfl
     | true=>exact absurd ((eqK_iff hkv this.1).1 hcc).symm (h2 _ (List.getElem_mem hil))
    rw [mpSet_none hno]
    refine ⟨_,?_,A.put (fs':=es'.push ⟨kv,vv,clock⟩) (clock':=clock+1) m hbn ?_ ?_⟩
    ·simp [Instr.mapUpdate,run_underlying ht,MapKept.run_getObj_map a3,run_checkKey hkd hik,run_findKey hkd h1,MapKept.run_setObj_map _ a3,Result.andThen]
    ·rw [RepEnts_iff]
     refine ⟨by simp [← hlen],fun i e x hei hxi=>?_⟩
     rw [Array.toList_push] at hei
     rcases Nat.lt_or_ge i es.length with c | c
     ·rw [List.getElem?_append_left (by omega)] at hei
      rw [List.getElem?_append_left c] at hxi
      exact hget i e x hei hxi
     ·rw [List.getElem?_append_right (by omega)] at hei
      rw [List.getElem?_append_right c] at hxi
      have hi0:i - es.length=0:=by
       have:=(List.getElem?_eq_some_iff.1 hxi).1
       simp at this; omega
      rw [hi0] at hxi
      rw [hlen,hi0] at hei
      simp at hei hxi
      subst hei hxi
      exact ⟨hkv,hv⟩
    ·rw [List.pairwise_append]
     refine ⟨a5,by simp,fun a ha b hb=>?_⟩
     simp at hb
     subst hb
     intro e
     simp only at e
     obtain ⟨i,hi⟩:=List.mem_iff_getElem?.1 ha
     have hil:i<es'.toList.length:=by have:=(List.getElem?_eq_some_iff.1 hi).1; omega
     have:=hget i _ a (List.getElem?_eq_getElem hil) hi
     have h4:=hno a ha
     rw [(eqK_iff hkv this.1).2 (by rw [this.1,hkv] at e; exact (Option.some.inj e).symm)] at h4
     cases h4
   ·have hjl:j<es'.toList.length:=(List.getElem?_eq_some_iff.1 h2).1
    have hjs:j<es.length:=by omega
    have hj:es'[j]?=some e0:=by simpa using h2
    have hjx:=hget j e0 _ h2 (List.getElem?_eq_getElem hjs)
    have hkx:eqK k es[j].1=true:=(eqK_iff hkv hjx.1).2 h3.symm
    rw [mpSet_at (List.getElem?_eq_getElem hjs) hkx (A.before hkv (List.getElem?_eq_getElem hjs) hkx)]
    refine ⟨_,?_,A.put (fs':=es'.modify j fun e=>{ e with key:=kv,val:=vv }) (clock':=clock) m hbn ?_ ?_⟩
    ·simp [Instr.mapUpdate,run_underlying ht,MapKept.run_getObj_map a3,run_checkKey hkd hik,run_findKey hkd h1,hj,h3,run_keyThatStays hik,MapKept.run_setObj_map _ a3,Result.andThen]
    ·rw [RepEnts_iff]
     refine ⟨by simpa using hlen,fun i e x hei hxi=>?_⟩
     have hei':(es'.modify j fun e=>{ e with key:=kv,val:=vv })[i]?=some e:=by rw [← Array.getElem?_toList]; exact hei
     rw [Array.getElem?_modify] at hei'
     by_cases hij:j=i
     ·subst hij
      rw [List.getElem?_set_self hjs] at hxi
      simp [hj] at hei'
      subst hei'
      cases hxi
      exact ⟨hkv,hv⟩
     ·rw [List.getElem?_set_ne hij] at hxi
      rw [if_neg hij] at hei'
      exact hget i e x (by simpa using hei') hxi
    ·have hmap:(es.set j (k,d)).map (fun x=>x.1.keyV)=es.map fun x=>x.1.keyV:=by
      rw [List.map_set]
      apply List.ext_getElem?
      intro i
      by_cases hij:j=i
      ·subst hij
       rw [List.getElem?_set_self (by simpa using hjs),List.getElem?_map,List.getElem?_eq_getElem hjs]
       simp only [Option.map_some]
       rw [hkv,hjx.1,h3]
      ·rw [List.getElem?_set_ne hij]
     have h5:(es.map fun x=>x.1.keyV).Pairwise (· ≠ ·):=List.pairwise_map.2 a5
     rw [← hmap] at h5
     exact List.pairwise_map.1 h5
  ·cases he
 ·cases he
theorem mapDelE_sound {C:Ctx} {bl:Nat→Blk} {w:World} {h:Gh} (m:Mem C bl w h) {tl:List Nat} {t ty:TypeId} {ts:List TypeId} {xm xk v:AV} {wr:List (Nat×Blk)} {mv kv:Value}
  (hm:RepA h mv xm) (hk:RepA h kv xk) (he:mapDelE C.P t (restr tl bl) xm xk=some (v,wr)) :
  v=.tup []∧∃ w',(Builtin.delete_ ⟨t::ts⟩ ty #[mv,kv]).run C.P w=.ok (.tuple #[]) w'∧Mem C (upds bl wr) w' h:=by
 unfold mapDelE at he
 split at he
 ·rename_i kd z k hmk
  obtain ⟨kt,et,ht,hkd,hz⟩:=mapKey_some hmk
  simp only [RepA] at hk
  split at he
  ·rename_i n
   split at he
   ·rename_i es hbl
    split at he <;> simp only [Option.some.injEq,Prod.mk.injEq,reduceCtorEq] at he
    rename_i hc
    obtain ⟨hc1,hc2⟩:=hc
    obtain ⟨rfl,rfl⟩:=he
    refine ⟨rfl,?_⟩
    have hbn:=restr_eq hbl (by simp)
    have hb:=m.blks n
    rw [hbn] at hb
    obtain ⟨l,es',clock,a1,a2,a3,a4,a5,a6⟩:=hb
    have A:At? h w n es l es' clock:=⟨a1,a2,a3,a4,a5,a6⟩
    simp only [RepA] at hm
    obtain ⟨l',hL,_,rfl⟩:=hm
    rw [a1] at hL; cases hL
    obtain ⟨hkv,hik⟩:=keyV_of hk hc1
    have hlen:=(RepEnts_iff.1 a4).1
    have hget:=(RepEnts_iff.1 a4).2
    have hall:∀ x∈es'.toList,IsKey kd x.key:=fun x hx=>by
     obtain ⟨i,hi⟩:=List.mem_iff_getElem?.1 hx
     have hil:i<es.length:=by have:=(List.getElem?_eq_some_iff.1 hi).1; omega
     have:=hget i x _ hi (List.getElem?_eq_getElem hil)
     rw [List.all_eq_true] at hc2
     exact isKey_of this.1 (hc2 _ (List.getElem_mem hil))
    rcases findNow_spec hik es'.toList 0 hall with ⟨h1,h2⟩ | ⟨j,e0,h1,h2,h3⟩
    ·have hno:∀ e∈es,eqK k e.1=false:=fun e hemem=>by
      obtain ⟨i,hi⟩:=List.mem_iff_getElem?.1 hemem
      have hil:i<es'.toList.length:=by have:=(List.getElem?_eq_some_iff.1 hi).1; omega
      have:=hget i _ e (List.getElem?_eq_getElem hil) hi
      cases hcc:eqK k e.1 with
      | false=>rfl
      | true=>exact absurd ((eqK_iff hkv this.1).1 hcc).symm (h2 _ (List.getElem_mem hil))
     rw [mpDel_none hno]
     refine ⟨_,?_,A.put (fs':=es') (clock':=clock) m hbn a4 a5⟩
     simp [Builtin.delete_,run_underlying ht,MapKept.run_getObj_map a3,run_checkKey hkd hik,run_findKey hkd h1,MapKept.run_setObj_map _ a3,Result.andThen]
    ·have hjl:j<es'.toList.length:=(List.getElem?_eq_some_iff.1 h2).1
     have hjs:j<es.length:=by omega
     have hj:es'[j]?=some e0:=by simpa using h2
     have hjx:=hget j e0 _ h2 (List.getElem?_eq_getElem hjs)
     have hkx:eqK k es[j].1=true:=(eqK_iff hkv hjx.1).2 h3.symm
     rw [mpDel_at (List.getElem?_eq_getElem hjs) hkx (A.before hkv (List.getElem?_eq_getElem hjs) hkx)]
     have hsub:(es'.eraseIdxIfInBounds j).toList=es'.toList.eraseIdx j:=by
      unfold Array.eraseIdxIfInBounds
      rw [dif_pos (by simpa using hjl)]
      simp
     refine ⟨_,?_,A.put (fs':=es'.eraseIdxIfInBounds j) (clock':=clock) m hbn ?_ (a5.sublist (List.eraseIdx_sublist _ _))⟩
     ·simp [Builtin.delete_,run_underlying ht,MapKept.run_getObj_map a3,run_checkKey hkd hik,run_findKey hkd h1,MapKept.run_setObj_map _ a3,Result.andThen]
     ·rw [hsub,RepEnts_iff]
      refine ⟨by rw [List.length_eraseIdx,List.length_eraseIdx,hlen],fun i e x hei hxi=>?_⟩
      rw [List.getElem?_eraseIdx] at hei hxi
      by_cases hij:i<j
      ·rw [if_pos hij] at hei hxi
       exact hget i e x hei hxi
      ·rw [if_neg hij] at hei hxi
       exact hget (i+1) e x hei hxi
   ·cases he
  ·split at he <;> simp only [Option.some.injEq,Prod.mk.injEq,reduceCtorEq] at he
   rename_i hc1
   obtain ⟨rfl,rfl⟩:=he
   simp only [RepA,RepD] at hm
   obtain ⟨rfl,_⟩:=hm
   obtain ⟨_,hik⟩:=keyV_of hk hc1
   exact ⟨rfl,w,by simp [Builtin.delete_,run_underlying ht,run_checkKey hkd hik,Result.andThen],by simpa [upds] using m⟩
  ·cases he
 ·cases he
theorem mapLenE_sound {C:Ctx} {bl:Nat→Blk} {w:World} {h:Gh} (m:Mem C bl w h) {tl:List Nat} {t ty:TypeId} {x v:AV} {wr:List (Nat×Blk)} {xv:Value}
  (hx:RepA h xv x) (he:mapLenE C.P t (restr tl bl) x=some (v,wr)):wr=[]∧∃ u,(Builtin.len_ #[t] ty #[xv]).run C.P w=.ok u w∧RepA h u v:=by
 unfold mapLenE at he
 split at he
 ·rename_i n
  split at he
  ·rename_i p hmk
   obtain ⟨kd,z⟩:=p
   obtain ⟨kt,et,ht,hkd,hz⟩:=mapKey_some hmk
   split at he <;> simp only [Option.some.injEq,Prod.mk.injEq,reduceCtorEq] at he
   rename_i es hbl
   obtain ⟨rfl,rfl⟩:=he
   have hb:=m.blks n
   rw [restr_eq hbl (by simp)] at hb
   obtain ⟨l,es',clock,a1,a2,a3,a4,a5,a6⟩:=hb
   simp only [RepA] at hx
   obtain ⟨l',hL,_,rfl⟩:=hx
   rw [a1] at hL; cases hL
   have hlen:=(RepEnts_iff.1 a4).1
   refine ⟨rfl,goInt es'.size,by simp [Builtin.len_,run_underlying ht,MapKept.run_getObj_map a3,Result.andThen],?_⟩
   simp [RepA,RepD,goInt,← hlen]
  ·cases he
 ·cases he
theorem lookE_sound {C:Ctx} {bl:Nat→Blk} {w:World} {h:Gh} (m:Mem C bl w h) {tl:List Nat} {t:TypeId} {ok:Bool} {xm xk v:AV} {wr:List (Nat×Blk)} {mv kv:Value}
  (hm:RepA h mv xm) (hk:RepA h kv xk) (he:lookE C.P t ok (restr tl bl) xm xk=some (v,wr)) :
  wr=[]∧∃ u,(Instr.lookup t mv kv ok).run C.P w=.ok u w∧RepA h u v:=by
 have tup:∀ {a b:Value} {x y:D},RepD h.μ a x→RepD h.μ b y→RepA h (.tuple #[a,b]) (.tup [.d x,.d y]):=fun {a b x y} h1 h2=>by
  simp only [RepA,RepAs]
  exact ⟨[a,b],rfl,a,[b],rfl,h1,b,[],rfl,h2,rfl⟩
 have bo:∀ b:Bool,RepD h.μ (.bool b) (.bool b):=fun b=>by simp only [RepD]
 unfold lookE at he
 split at he
 ·rename_i kd z k hmk
  obtain ⟨kt,et,ht,hkd,hz⟩:=mapKey_some hmk
  obtain ⟨i,zv,hi,hz1,hz2⟩:=hz z rfl
  have hzr:RepD h.μ zv z:=by have:=constAV_rep (h:=h) zv; rw [hz2] at this; simpa only [RepA] using this
  simp only [RepA] at hk
  split at he
  ·rename_i hc1
   obtain ⟨hkv,hik⟩:=keyV_of hk hc1
   split at he
   ·rename_i n
    split at he
    ·rename_i es hbl
     split at he <;> simp only [Option.some.injEq,Prod.mk.injEq,reduceCtorEq] at he
     rename_i hc2
     obtain ⟨rfl,rfl⟩:=he
     refine ⟨rfl,?_⟩
     have hbn:=restr_eq hbl (by simp)
     have hb:=m.blks n
     rw [hbn] at hb
     obtain ⟨l,es',clock,a1,a2,a3,a4,a5,a6⟩:=hb
     have A:At? h w n es l es' clock:=⟨a1,a2,a3,a4,a5,a6⟩
     simp only [RepA] at hm
     obtain ⟨l',hL,_,rfl⟩:=hm
     rw [a1] at hL; cases hL
     have hlen:=(RepEnts_iff.1 a4).1
     have hget:=(RepEnts_iff.1 a4).2
     have hall:∀ x∈es'.toList,IsKey kd x.key:=fun x hx=>by
      obtain ⟨i,hi⟩:=List.mem_iff_getElem?.1 hx
      have hil:i<es.length:=by have:=(List.getElem?_eq_some_iff.1 hi).1; omega
      have:=hget i x _ hi (List.getElem?_eq_getElem hil)
      rw [List.all_eq_true] at hc2
      exact isKey_of this.1 (hc2 _ (List.getElem_mem hil))
     rcases findNow_spec hik es'.toList 0 hall with ⟨h1,h2⟩ | ⟨j,e0,h1,h2,h3⟩
     ·have hno:∀ e∈es,eqK k e.1=false:=fun e hemem=>by
       obtain ⟨i,hi⟩:=List.mem_iff_getElem?.1 hemem
       have hil:i<es'.toList.length:=by have:=(List.getElem?_eq_some_iff.1 hi).1; omega
       have:=hget i _ e (List.getElem?_eq_getElem hil) hi
       cases hcc:eqK k e.1 with
       | false=>rfl
       | true=>exact absurd ((eqK_iff hkv this.1).1 hcc).symm (h2 _ (List.getElem_mem hil))
      rw [mpGet_none hno]
      cases ok
      ·exact ⟨zv,by simp [Instr.lookup,run_underlying ht,MapKept.run_getObj_map a3,run_checkKey hkd hik,run_findKey hkd h1,zeroValue,typeInfo,hi,hz1,Result.andThen],by simpa [RepA] using hzr⟩
      ·exact ⟨.tuple #[zv,.bool false],by simp [Instr.lookup,run_underlying ht,MapKept.run_getObj_map a3,run_checkKey hkd hik,run_findKey hkd h1,zeroValue,typeInfo,hi,hz1,Result.andThen],by simpa using tup hzr (bo false)⟩
     ·have hjl:j<es'.toList.length:=(List.getElem?_eq_some_iff.1 h2).1
      have hjs:j<es.length:=by omega
      have hjx:=hget j e0 _ h2 (List.getElem?_eq_getElem hjs)
      have hkx:eqK k es[j].1=true:=(eqK_iff hkv hjx.1).2 h3.symm
      rw [mpGet_at (List.getElem?_eq_getElem hjs) hkx (A.before hkv (List.getElem?_eq_getElem hjs) hkx)]
      cases ok
      ·exact ⟨e0.val,by simp [Instr.lookup,run_underlying ht,MapKept.run_getObj_map a3,run_checkKey hkd hik,run_findKey hkd h1,Result.andThen],by simpa [RepA] using hjx.2⟩
      ·exact ⟨.tuple #[e0.val,.bool true],by simp [Instr.lookup,run_underlying ht,MapKept.run_getObj_map a3,run_checkKey hkd hik,run_findKey hkd h1,Result.andThen],by simpa using tup hjx.2 (bo true)⟩
    ·cases he
   ·simp only [Option.some.injEq,Prod.mk.injEq] at he
    obtain ⟨rfl,rfl⟩:=he
    simp only [RepA,RepD] at hm
    obtain ⟨rfl,_⟩:=hm
    refine ⟨rfl,?_⟩
    have h1:Instr.findNow kd kv [] 0=some none:=rfl
    cases ok
    ·exact ⟨zv,by simp [Instr.lookup,run_underlying ht,run_checkKey hkd hik,run_findKey hkd h1,zeroValue,typeInfo,hi,hz1,Result.andThen],by simpa [RepA] using hzr⟩
    ·exact ⟨.tuple #[zv,.bool false],by simp [Instr.lookup,run_underlying ht,run_checkKey hkd hik,run_findKey hkd h1,zeroValue,typeInfo,hi,hz1,Result.andThen],by simpa using tup hzr (bo false)⟩
   ·cases he
  ·cases he
 ·cases he
theorem run_equalIn_map {P:Program} (w:World) (n:Nat) {t k e:TypeId} (ht:P.underlying t=some (.map k e)) (r:Option Nat):(Op.equalIn (n+1) t (.map r) (.map none)).run P w=.ok r.isNone w:=by
 cases r <;> simp [Op.equalIn,run_underlying ht]
theorem nilM_sound {P:Program} {w:World} {h:Gh} {op:BinOp} {t:TypeId} {x v:AV} {a:Value} {ox:Operand} {p:TypeDesc×Option D} (hk:mapKey? P t=some p) (hx:RepA h a x) (he:nilM op x=some v) :
  ∃ u,((do eqGuard op t ox (.const (.map none)) a (.map none); binOp op t a (.map none)):Sem Value).run P w=.ok u w∧RepA h u v:=by
 obtain ⟨kd,z⟩:=p
 obtain ⟨kt,et,ht,_,_⟩:=mapKey_some hk
 unfold nilM at he
 split at he
 ·simp only [RepA] at hx
  obtain ⟨l,_,_,rfl⟩:=hx
  split at he <;> simp only [Option.some.injEq,reduceCtorEq] at he <;> subst he
  ·exact ⟨.bool false,by simp [eqGuard,binOp,Op.equal,Op.maxDepth,run_equalIn_map w 9999 ht],by simp [RepA,RepD]⟩
  ·exact ⟨.bool true,by simp [eqGuard,binOp,Op.equal,Op.maxDepth,run_equalIn_map w 9999 ht],by simp [RepA,RepD]⟩
 ·simp only [RepA,RepD] at hx
  obtain ⟨rfl,_⟩:=hx
  split at he <;> simp only [Option.some.injEq,reduceCtorEq] at he <;> subst he
  ·exact ⟨.bool true,by simp [eqGuard,binOp,Op.equal,Op.maxDepth,run_equalIn_map w 9999 ht],by simp [RepA,RepD]⟩
  ·exact ⟨.bool false,by simp [eqGuard,binOp,Op.equal,Op.maxDepth,run_equalIn_map w 9999 ht],by simp [RepA,RepD]⟩
 ·cases he
theorem run_copy {P:Program} (w:World) {t e ts ty:TypeId} {i:TypeInfo} (ht:P.underlying t=some (.slice e)) (hi:P.info? e=some i) (b off len cap:Nat) (a:Addr) (k c:Nat) (news:List Value) (g:TypeId) (cs:Array Value) (hh:w.heap[b]?=some (.cells cs g (0,0)))
  (hl:news.length=min k len*i.size) (hnews:∀ j u,news[j]?=some u→w.cell? (a.add j)=some u) (h1:∀ u∈news,u.oneCell'=true) (hfit:off+news.length≤cs.size) :
  (Builtin.copy_ #[t,ts] ty #[.slice (some ⟨b,off,none⟩) len cap,.slice (some a) k c]).run P w=.ok (goInt (min k len:Nat)) (w.setRow b ⟨splice cs.toList off news⟩):=by
 have hfc:=Go.run_firstCells_some (P:=P) w i.size (min k len) a k c news hl hnews
 have hst:=run_storeCells_at P b off g news 0 cs w hh (by simpa using hfit) h1
 simp only [Nat.add_zero] at hst
 have hm:Nat.min k len=min k len:=rfl
 simp only [Builtin.copy_,Sem.run_bind]
 simp [run_underlying ht,run_sizeOf hi,Builtin.lenOf,hm,hfc]
 erw [hst]
 simp [splice]
theorem run_copy0 {P:Program} (w:World) {t e ts ty:TypeId} {i:TypeInfo} (ht:P.underlying t=some (.slice e)) (hi:P.info? e=some i) (d:Option Addr) (len cap:Nat) (a:Option Addr) (k c:Nat) (h0:min k len=0) :
  (Builtin.copy_ #[t,ts] ty #[.slice d len cap,.slice a k c]).run P w=.ok (goInt 0) w:=by
 have hm:Nat.min k len=0:=h0
 cases d <;> cases a <;> simp [Builtin.copy_,run_underlying ht,run_sizeOf hi,Builtin.lenOf,hm,Builtin.firstCells,loadCells,loadCellsFrom,storeCells]
theorem copyE_sound {C:Ctx} {bl:Nat→Blk} {w:World} {h:Gh} (m:Mem C bl w h) {tl:List Nat} {t ts ty:TypeId} {xd xs v:AV} {wr:List (Nat×Blk)} {dv sv:Value}
  (hd:RepA h dv xd) (hs:RepA h sv xs) (he:copyE C.P t (restr tl bl) xd xs=some (v,wr)) :
  ∃ n:Nat,v=.d (.int .i64 n)∧∃ w',(Builtin.copy_ #[t,ts] ty #[dv,sv]).run C.P w=.ok (goInt n) w'∧Mem C (upds bl wr) w' h:=by
 unfold copyE at he
 split at he
 ·rename_i sz0 by0 z0 e hti
  obtain ⟨i,d,h1,h2,h3⟩:=tinf_some hti
  have hdk:=kind_slice (P:=C.P) (d:=d) (by injection h3 with _ _ _ h4; exact h4.symm)
  subst hdk
  split at he
  ·rename_i te ys hte hys
   obtain ⟨ie,de,e1,e2,rfl⟩:=tinf_some hte
   split at he
   ·rename_i hall
    simp only at hall
    obtain ⟨a,c,rfl,hsrc⟩:=(listD_sound m hs hys hall).ex
    split at he
    ·simp only [Option.some.injEq,Prod.mk.injEq] at he
     obtain ⟨rfl,rfl⟩:=he
     simp only [RepA] at hd
     subst hd
     exact ⟨0,rfl,w,run_copy0 w h2 e1 _ _ _ _ _ _ (by simp),by simpa [upds] using m⟩
    ·rename_i n lo len sz
     simp only [RepA] at hd
     obtain ⟨l,hL,hsz,hv⟩:=hd
     split at he
     ·rename_i hz
      simp only [Option.some.injEq,Prod.mk.injEq] at he
      obtain ⟨rfl,rfl⟩:=he
      have hdv:∃ (ad:Option Addr) (cap:Nat),dv=.slice ad len cap:=by
       split at hv
       ·obtain ⟨rfl,_,rfl⟩:=hv
        exact ⟨none,0,rfl⟩
       ·obtain ⟨cap,rfl,_⟩:=hv
        exact ⟨_,cap,rfl⟩
      obtain ⟨ad,cap,rfl⟩:=hdv
      exact ⟨0,rfl,w,run_copy0 w h2 e1 _ _ _ _ _ _ hz,by simpa [upds] using m⟩
     ·rename_i hz
      split at he
      ·rename_i e' z xs hbl
       split at he <;> simp only [Option.some.injEq,Prod.mk.injEq,reduceCtorEq] at he
       rename_i hcond
       obtain ⟨c2,rfl,rfl⟩:=hcond
       obtain ⟨rfl,rfl⟩:=he
       refine ⟨_,rfl,?_⟩
       have hb:=m.blks n
       have hbn:=restr_eq hbl (by simp)
       rw [hbn] at hb
       obtain ⟨l',a1,a2,a3,a4⟩:=hb
       rw [hL] at a1; cases a1
       cases hn:l.nul with
       | true =>
         rw [hn] at hv
         simp only [if_true] at hv
         exfalso
         apply hz
         rw [hv.2.2]
         omega
       | false =>
         rw [hn] at hv a4
         simp only [Bool.false_eq_true,if_false] at hv a4
         obtain ⟨cap,rfl,hcl,hcm,hca⟩:=hv
         obtain ⟨cs,a5,a6,a7,a8,a9⟩:=a4
         have hmu:∀ o,h.μ l.blk o=none:=fun o=>by
          cases e:h.μ l.blk o with
          | none=>rfl
          | some v=>have:=(a9 o v e).1; cases this
         have hne:ys ≠ []:=fun e=>hz (by subst e; simp)
         obtain ⟨ad,news,rfl,n1,n2,n3,n4⟩:=hsrc hne
         let k:=min ys.length len
         have hkl:k≤len:=Nat.min_le_right _ _
         have hky:k≤ys.length:=Nat.min_le_left _ _
         let Z:=news.take (k*ie.size)
         have hZl:Z.length=k*ie.size:=by
          simp only [Z,List.length_take,n1]
          exact Nat.min_eq_left (Nat.mul_le_mul_right _ hky)
         have hZg:∀ j,j<k*ie.size→Z[j]?=news[j]?:=fun j hj=>by simp only [Z,List.getElem?_take,if_pos hj]
         have hrow:(lo+len)*ie.size≤xs.length*ie.size:=Nat.mul_le_mul_right _ c2
         have hklm:k*ie.size≤len*ie.size:=Nat.mul_le_mul_right _ hkl
         rw [Nat.add_mul] at hrow
         have hfit:lo*ie.size+Z.length≤cs.size:=by rw [hZl]; omega
         rw [hsz]
         have hrun:=run_copy (P:=C.P) w (ts:=ts) (ty:=ty) h2 e1 l.blk (lo*ie.size) len cap ad ys.length c Z e' cs a5 hZl (fun j u hj=>n2 j u (by
          have:j<k*ie.size:=by have:=(List.getElem?_eq_some_iff.1 hj).1; omega
          rw [hZg j this] at hj; exact hj)) (fun u hu=>n3 u (List.mem_of_mem_take hu)) hfit
         have hfit':lo*ie.size+Z.length≤cs.toList.length:=by simpa using hfit
         refine ⟨w.setRow l.blk ⟨splice cs.toList (lo*ie.size) Z⟩,hrun,m.rewrite (w':=w.setRow l.blk ⟨splice cs.toList (lo*ie.size) Z⟩) (by rw [hbn]; rfl) hL hn (.arr e' ie.size (xs.take lo++ys.take k++xs.drop (lo+k)) false) (setRow_size _ _ _) (fun k hk=>setRow_other w l.blk k _ hk) (fun o v hv=>by rw [hmu] at hv; cases hv) rfl rfl rfl ?_⟩
         refine ⟨l,hL,a2,a3,?_⟩
         rw [hn]
         simp only [Bool.false_eq_true,if_false]
         have hyk:(ys.take k).length=k:=by simp only [List.length_take]; omega
         refine ⟨_,setRow_heap w l.blk _ _ e' _ a5,?_,?_,?_,fun o v hv=>by rw [hmu] at hv; cases hv⟩
         ·have:=splice_length hfit'; simp only [Array.length_toList] at this; rw [← a6]; simpa using this
         ·have hsl:=splice_length hfit'
          simp only [Array.length_toList] at hsl
          simp only [List.length_append,hyk,List.length_take,List.length_drop]
          rw [show min lo xs.length+k+(xs.length - (lo+k))=xs.length from by omega]
          simpa [hsl] using a7
         ·intro i' x' hx'
          have hcell:∀ j,(⟨splice cs.toList (lo*ie.size) Z⟩:Array Value)[j]?=if lo*ie.size≤j∧j<lo*ie.size+k*ie.size then Z[j - lo*ie.size]? else cs[j]?:=fun j=>by
           have:=splice_get hfit' j
           rw [hZl] at this
           simpa using this
          have hmid:(xs.take lo++ys.take k++xs.drop (lo+k))[i']?=if lo≤i'∧i'<lo+k then ys[i' - lo]? else xs[i']?:=by
           have:=splice_get (l:=xs) (j:=lo) (vs:=ys.take k) (by rw [hyk]; omega) i'
           unfold splice at this
           rw [hyk] at this
           rw [this]
           by_cases hc:lo≤i'∧i'<lo+k
           ·rw [if_pos hc,if_pos hc,List.getElem?_take,if_pos (by omega)]
           ·rw [if_neg hc,if_neg hc]
          rw [hmid] at hx'
          by_cases hc:lo≤i'∧i'<lo+k
          ·rw [if_pos hc] at hx'
           have hlen:x'.length=ie.size:=by
            rw [List.all_eq_true] at hall
            simpa using hall x' (List.mem_of_getElem? hx')
           refine ⟨hlen,fun j c hj=>?_⟩
           have hj':j<ie.size:=by have:=(List.getElem?_eq_some_iff.1 hj).1; omega
           have q1:lo*ie.size≤i'*ie.size:=Nat.mul_le_mul_right _ hc.1
           have q2:(i'+1)*ie.size≤(lo+k)*ie.size:=Nat.mul_le_mul_right _ (by omega)
           rw [Nat.add_mul,Nat.one_mul,Nat.add_mul] at q2
           obtain ⟨u,hu,hr⟩:=n4 _ x' hx' j c hj
           refine ⟨u,?_,hr⟩
           rw [hcell,if_pos (by omega),hZg _ (by omega)]
           have q3:i'*ie.size+j - lo*ie.size=(i' - lo)*ie.size+j:=by rw [Nat.sub_mul]; omega
           rw [q3,hu]
          ·rw [if_neg hc] at hx'
           obtain ⟨b1,b2⟩:=a8 i' x' hx'
           refine ⟨b1,fun j c hj=>?_⟩
           have hj':j<ie.size:=by have:=(List.getElem?_eq_some_iff.1 hj).1; omega
           rw [hcell,if_neg]
           ·exact b2 j c hj
           ·intro hcc
            rcases Nat.lt_or_ge i' lo with q | q
            ·have:(i'+1)*ie.size≤lo*ie.size:=Nat.mul_le_mul_right _ q
             rw [Nat.add_mul,Nat.one_mul] at this; omega
            ·have:(lo+k)*ie.size≤i'*ie.size:=Nat.mul_le_mul_right _ (by omega)
             rw [Nat.add_mul] at this; omega
      ·cases he
    ·cases he
   ·cases he
  ·cases he
 ·cases he
end Go.Ab
namespace Go.Ab
def Done (C:Ctx) (bl:Nat→Blk) (h:Gh) (wr:List (Nat×Blk)) (v:AV) (r:Result Next):Prop :=
 ∃ nx u w' h',r=.ok nx w'∧(nx=.value u∨(nx=.skip∧u=undef))∧h.le h'∧Mem C (upds bl wr) w' h'∧RepA h' u v
theorem Good.done {C:Ctx} {bl:Nat→Blk} {h:Gh} {wr:List (Nat×Blk)} {v:AV} {w:World} {s:Sem Value} (g:Good C bl h wr v (s.run C.P w)) :
  Done C bl h wr v ((do pure (Next.value (← s)):Sem Next).run C.P w):=by
 obtain ⟨u,w',h',hr,le,m,ru⟩:=g
 exact ⟨.value u,u,w',h',by simp [hr],.inl rfl,le,m,ru⟩
theorem Done.still {C:Ctx} {bl:Nat→Blk} {h:Gh} {w:World} (m:Mem C bl w h) {v:AV} {s:Sem Value} {u:Value} (hr:s.run C.P w=.ok u w) (ru:RepA h u v) :
  Done C bl h [] v ((do pure (Next.value (← s)):Sem Next).run C.P w) :=
 Good.done (wr:=[]) ⟨u,w,h,hr,.refl h,m,ru⟩
theorem RepAs_map {h:Gh} {ev:Operand→Value} {ρ:Operand→AV} (hρ:∀ x,RepA h (ev x) (ρ x)) (l:List Operand):RepAs h (l.map ev) (l.map ρ):=by
 induction l with
 | nil=>simp [RepAs]
 | cons x l ih=>exact ⟨_,_,rfl,hρ x,ih⟩
theorem opt_rep {h:Gh} {ev:Operand→Value} {ρ:Operand→AV} (hρ:∀ x,RepA h (ev x) (ρ x)) (o:Option Operand) :
  match o.map ρ,o.map ev with | some x,some v=>RepA h v x | none,none=>True | _,_=>False:=by
 cases o
 ·trivial
 ·exact hρ _
theorem effF_sound {C:Ctx} {bl:Nat→Blk} {w:World} {h:Gh} (m:Mem C bl w h) {ev:Operand→Value} {ρ:Operand→AV} (hρ:∀ x,RepA h (ev x) (ρ x)) {o:Oper} (hdst:∀ n,o.dst=some n→n<firstName)
  {tl:List Nat} {v:AV} {wr:List (Nat×Blk)} (htl:∀ p∈wr,p.1∈tl) (he:effF C.P ρ o (restr tl bl)=some (v,wr)):Done C bl h wr v ((execOp ev o).run C.P w):=by
 obtain ⟨dst,op,type,pos,after,guard⟩:=o
 simp only at hdst
 cases op <;> simp only [effF] at he <;> simp only [execOp] <;> first | (cases he; done) | skip
 case move x =>
  simp only [pureE,Option.some.injEq,Prod.mk.injEq] at he
  obtain ⟨rfl,rfl⟩:=he
  exact ⟨_,_,w,h,rfl,.inl rfl,.refl h,m,hρ x⟩
 case assign x =>
  simp only [pureE,Option.some.injEq,Prod.mk.injEq] at he
  obtain ⟨rfl,rfl⟩:=he
  exact ⟨_,_,w,h,rfl,.inl rfl,.refl h,m,hρ x⟩
 case pick c a b =>
  split at he
  ·rename_i t ht
   simp only [pureE,Option.some.injEq,Prod.mk.injEq] at he
   obtain ⟨rfl,rfl⟩:=he
   have hc:=hρ c
   rw [ht] at hc
   simp only [RepA,RepD] at hc
   refine ⟨_,if t=true then ev a else ev b,w,h,?_,.inl rfl,.refl h,m,?_⟩
   ·simp [hc,asBool]
   ·cases t
    ·exact hρ b
    ·exact hρ a
  ·cases he
 case alloc t =>
  split at he
  ·rename_i ti hti
   split at he
   ·rename_i z hz
    obtain ⟨n,rfl,hfree,rfl,rfl⟩:=newE_some he
    exact (allocE_sound m hti hz (hdst n rfl) (restr_eq hfree (by simp))).done
   ·cases he
  ·cases he
 case box t x =>
  split at he
  ·rename_i hg
   obtain ⟨n,rfl,hfree,rfl,rfl⟩:=newE_some he
   exact (boxE_sound m (hρ x) hg (hdst n rfl) (restr_eq hfree (by simp))).done
  ·cases he
 case build t ps =>
  have hr:=RepAs_map hρ (ps.toList.map (·.2))
  obtain ⟨rfl,u,hu,ru⟩:=buildE_sound (w:=w) (vs:=ps.toList.map fun p=>(p.1,ev p.2)) (by simp [List.map_map,Function.comp_def]) (by simpa [List.map_map,Function.comp_def] using hr) he
  refine Done.still m ?_ ru
  rw [← hu]
  congr 2
  apply Array.ext'
  simp
 case buildSlice t len ps =>
  have hr:=RepAs_map hρ (ps.toList.map (·.2))
  have g:=buildSliceE_sound m hdst (vs:=ps.toList.map fun p=>(p.1,ev p.2)) htl (by simp [List.map_map,Function.comp_def]) (by simpa [List.map_map,Function.comp_def] using hr) he
  have e:ps.map (fun x=>(x.1,ev x.2))=(ps.toList.map fun p=>(p.1,ev p.2)).toArray:=by apply Array.ext'; simp
  rw [← e] at g
  exact g.done
 case load t a =>
  split at he
  ·rename_i ti hti
   obtain ⟨rfl,u,hu,ru⟩:=loadE_sound m hti (hρ a) he
   exact Done.still m hu ru
  ·cases he
 case store t a x =>
  split at he
  ·rename_i ti hti
   obtain ⟨rfl,w',hw,m'⟩:=storeE_sound m hti (hρ a) (hρ x) he
   exact ⟨.skip,undef,w',h,by simp [hw],.inr ⟨rfl,rfl⟩,.refl h,m',by simp [RepA]⟩
  ·cases he
 case nilCheck x =>
  have hx:=hρ x
  split at he
  ·rename_i n i j hp
   simp only [pureE,Option.some.injEq,Prod.mk.injEq] at he
   obtain ⟨rfl,rfl⟩:=he
   rw [hp] at hx
   have hx':=hx
   simp only [RepA] at hx
   obtain ⟨l,h1,h2,h3⟩:=hx
   rw [h3] at hx' ⊢
   exact ⟨_,_,w,h,rfl,.inl rfl,.refl h,m,hx'⟩
  ·rename_i cs hp
   simp only [pureE,Option.some.injEq,Prod.mk.injEq] at he
   obtain ⟨rfl,rfl⟩:=he
   rw [hp] at hx
   have hx':=hx
   simp only [RepA] at hx
   obtain ⟨b,o,h3,_⟩:=hx
   rw [h3] at hx' ⊢
   exact ⟨_,_,w,h,rfl,.inl rfl,.refl h,m,hx'⟩
  ·cases he
 case binOp op t x y yt =>
  split at he
  ·split at he
   ·rename_i hc
    simp only [Option.map_eq_some_iff,Prod.mk.injEq] at he
    obtain ⟨v',hv,rfl,rfl⟩:=he
    obtain ⟨u,hu,ru⟩:=nilE_sound (P:=C.P) (w:=w) (ox:=x) (hρ x) hv
    have h1:=hρ (.const .nilIface)
    rw [hc] at h1
    simp only [RepA,RepD] at h1
    exact Done.still m (by rw [h1.1]; exact hu) ru
   ·cases he
  ·split at he
   ·rename_i hc
    split at he
    ·rename_i hk
     simp only [Option.map_eq_some_iff,Prod.mk.injEq] at he
     obtain ⟨v',hv,rfl,rfl⟩:=he
     obtain ⟨p,hp⟩:=Option.isSome_iff_exists.1 hk
     obtain ⟨u,hu,ru⟩:=nilM_sound (P:=C.P) (w:=w) (ox:=x) hp (hρ x) hv
     have h1:=hρ (.const (.map none))
     rw [hc] at h1
     simp only [RepA,RepD] at h1
     exact Done.still m (by rw [h1.1]; exact hu) ru
    ·cases he
   ·cases he
  simp only [Option.map_eq_some_iff,Prod.mk.injEq] at he
  obtain ⟨v',hv,rfl,rfl⟩:=he
  obtain ⟨u,hu,ru⟩:=binE_sound (P:=C.P) (w:=w) (ox:=x) (oy:=y) (hρ x) (hρ y) hv
  exact Done.still m hu ru
 case unOp op t x =>
  simp only [Option.map_eq_some_iff,Prod.mk.injEq] at he
  obtain ⟨v',hv,rfl,rfl⟩:=he
  obtain ⟨u,hu,ru⟩:=unE_sound (P:=C.P) (w:=w) (hρ x) hv
  exact Done.still m hu ru
 case convert s d x =>
  obtain ⟨rfl,u,hu,ru⟩:=convB_sound m (hρ x) he
  exact Done.still m hu ru
 case makeFunc fn first caps =>
  cases fn <;> simp only at he <;> first | (cases he; done) | skip
  rename_i f
  split at he
  ·rename_i h0
   simp only [pureE,Option.some.injEq,Prod.mk.injEq] at he
   obtain ⟨rfl,rfl⟩:=he
   have hf:first=#[]:=Array.eq_empty_of_size_eq_zero h0
   subst hf
   refine Done.still m (u:=.func (.func f) #[] (caps.map ev)) (by simp [Instr.makeFunc]) ?_
   simp only [RepA]
   exact ⟨caps.toList.map ev,by congr 1; apply Array.ext'; simp,RepAs_map hρ _⟩
  ·split at he
   ·rename_i h0
    simp only [pureE,Option.some.injEq,Prod.mk.injEq] at he
    obtain ⟨rfl,rfl⟩:=he
    have hf:caps=#[]:=Array.eq_empty_of_size_eq_zero h0
    subst hf
    refine Done.still m (u:=.func (.func f) (first.map ev) #[]) (by simp [Instr.makeFunc]) ?_
    simp only [RepA]
    exact ⟨first.toList.map ev,by congr 1; apply Array.ext'; simp,RepAs_map hρ _⟩
   ·cases he
 case makeSlice t l c=>exact (makeSliceE_sound m hdst (hρ l) (hρ c) he).done
 case slice t x lo hi mx =>
  split at he
  ·rename_i ti hti
   obtain ⟨rfl,u,hu,ru⟩:=sliceE_sound (w:=w) hti (hρ x) (opt_rep hρ lo) (opt_rep hρ hi) (opt_rep hρ mx) he
   exact Done.still m hu ru
  ·cases he
 case fieldAddr t x f =>
  split at he
  ·rename_i ti hti
   obtain ⟨rfl,u,hu,ru⟩:=fieldAddrE_sound (w:=w) hti (hρ x) he
   exact Done.still m hu ru
  ·cases he
 case field t x f =>
  split at he
  ·rename_i ti hti
   obtain ⟨rfl,u,hu,ru⟩:=fieldE_sound (w:=w) hti (hρ x) he
   exact Done.still m hu ru
  ·cases he
 case indexAddr t x ix =>
  split at he
  ·rename_i ti i hti hi
   obtain ⟨k,hk⟩:=intOfA_rep (hρ ix) hi
   obtain ⟨rfl,u,hu,ru⟩:=indexAddrE_sound (w:=w) (k:=k) hti (hρ x) he
   rw [hk]
   exact Done.still m hu ru
  ·cases he
 case index t x ix =>
  split at he
  ·rename_i ti i hti hi
   obtain ⟨k,hk⟩:=intOfA_rep (hρ ix) hi
   obtain ⟨rfl,u,hu,ru⟩:=indexE_sound (w:=w) (k:=k) hti (hρ x) he
   rw [hk]
   exact Done.still m hu ru
  ·cases he
 case extract x i =>
  have hx:=hρ x
  split at he
  ·rename_i vs hv
   simp only [Option.map_eq_some_iff,Prod.mk.injEq] at he
   obtain ⟨v',hv',rfl,rfl⟩:=he
   rw [hv] at hx
   simp only [RepA] at hx
   obtain ⟨arr,hx,hr⟩:=hx
   obtain ⟨u,hu,ru⟩:=(RepAs_iff.1 hr).2 i _ hv'
   rw [hx]
   exact Done.still m (by simp [Instr.extract,hu]) ru
  ·cases he
 case range t x =>
  split at he
  ·rename_i ti hti
   exact (rangeE_sound m hti hdst (hρ x) he).done
  ·cases he
 case next x isS =>
  split at he
  ·rename_i hs
   subst hs
   exact (nextE_sound m (hρ x) htl he).done
  ·cases he
 case makeMap t hint =>
  cases hint <;> simp only at he
  ·obtain ⟨n,rfl,hfree,rfl,rfl⟩:=newE_some he
   exact (newMap_sound m (hdst n rfl) (restr_eq hfree (by simp)) t).done
  ·cases he
 case mapUpdate t mo k x =>
  obtain ⟨rfl,w',hw,m'⟩:=mapUpdE_sound m (hρ mo) (hρ k) (hρ x) he
  exact ⟨.skip,undef,w',h,by simp [hw],.inr ⟨rfl,rfl⟩,.refl h,m',by simp [RepA]⟩
 case lookup t mo k ok =>
  obtain ⟨rfl,u,hu,ru⟩:=lookE_sound m (hρ mo) (hρ k) he
  exact Done.still m hu ru
 case call c =>
  obtain ⟨callee,args,argTypes⟩:=c
  unfold builtinE at he
  simp only at he
  split at he
  ·split at he
   ·rename_i x t ha ht
    have ha':args=#[x]:=by apply Array.ext'; simpa using ha
    have ht':argTypes=#[t]:=by apply Array.ext'; simpa using ht
    subst ha' ht'
    split at he
    ·rename_i n hx
     have h1:=hρ x
     rw [hx] at h1
     obtain ⟨rfl,u,hu,ru⟩:=mapLenE_sound (ty:=type) m h1 he
     have g:=Done.still m hu ru
     simpa [resolve,invoke,builtin] using g
    ·split at he
     ·rename_i ti hti
      simp only [Option.map_eq_some_iff,Prod.mk.injEq] at he
      obtain ⟨v',hv,rfl,rfl⟩:=he
      obtain ⟨u,hu,ru⟩:=lenE_sound (P:=C.P) (w:=w) (ty:=type) hti (hρ x) hv
      have g:=Done.still m hu ru
      simpa [resolve,invoke,builtin] using g
     ·cases he
   ·cases he
  ·split at he
   ·rename_i mo k t ts ha ht
    have ha':args=#[mo,k]:=by apply Array.ext'; simpa using ha
    have ht':argTypes=⟨t::ts⟩:=by apply Array.ext'; simpa using ht
    subst ha' ht'
    obtain ⟨rfl,w',hw,m'⟩:=mapDelE_sound (ty:=type) (ts:=ts) m (hρ mo) (hρ k) he
    have g0:Good C bl h wr (.tup []) ((Builtin.delete_ ⟨t::ts⟩ type #[ev mo,ev k]).run C.P w):=⟨_,w',h,hw,.refl h,m',by simp only [RepA,RepAs]; exact ⟨[],rfl,rfl⟩⟩
    have g:=g0.done
    simpa [resolve,invoke,builtin] using g
   ·cases he
  ·split at he
   ·rename_i d s t ts ha ht
    have ha':args=#[d,s]:=by apply Array.ext'; simpa using ha
    have ht':argTypes=#[t,ts]:=by apply Array.ext'; simpa using ht
    subst ha' ht'
    obtain ⟨n,rfl,w',hw,m'⟩:=copyE_sound (ts:=ts) (ty:=type) m (hρ d) (hρ s) he
    have g0:Good C bl h wr (.d (.int .i64 n)) ((Builtin.copy_ #[t,ts] type #[ev d,ev s]).run C.P w):=⟨_,w',h,hw,.refl h,m',by simp [RepA,RepD,goInt]⟩
    have g:=g0.done
    simpa [resolve,invoke,builtin] using g
   ·cases he
  ·split at he
   ·rename_i x t ha ht
    have ha':args=#[x]:=by apply Array.ext'; simpa using ha
    have ht':argTypes=#[t]:=by apply Array.ext'; simpa using ht
    subst ha' ht'
    obtain ⟨rfl,w',hw,m'⟩:=clearE_sound (ty:=type) m (hρ x) he
    have g0:Good C bl h wr (.tup []) ((Builtin.clear_ #[t] type #[ev x]).run C.P w):=⟨_,w',h,hw,.refl h,m',by simp only [RepA,RepAs]; exact ⟨[],rfl,rfl⟩⟩
    have g:=g0.done
    simpa [resolve,invoke,builtin] using g
   ·cases he
  ·split at he
   ·rename_i x t ha ht
    split at he
    ·rename_i ti hti
     simp only [Option.map_eq_some_iff,Prod.mk.injEq] at he
     obtain ⟨v',hv,rfl,rfl⟩:=he
     have ha':args=#[x]:=by apply Array.ext'; simpa using ha
     have ht':argTypes=#[t]:=by apply Array.ext'; simpa using ht
     subst ha' ht'
     obtain ⟨u,hu,ru⟩:=capE_sound (P:=C.P) (w:=w) (ty:=type) hti (hρ x) hv
     have g:=Done.still m hu ru
     simpa [resolve,invoke,builtin] using g
    ·cases he
   ·cases he
  ·split at he
   ·rename_i s x t t' ha ht
    split at he
    ·rename_i htt
     subst htt
     split at he
     ·rename_i sz1 by1 z1 e hti
      obtain ⟨i,d,h1,h2,h3⟩:=tinf_some hti
      have hd:=kind_slice (P:=C.P) (d:=d) (by injection h3 with _ _ _ h4; exact h4.symm)
      subst hd
      have ha':args=#[s,x]:=by apply Array.ext'; simpa using ha
      have ht':argTypes=#[t',t']:=by apply Array.ext'; simpa using ht
      subst ha' ht'
      have g:=appendE_sound (ty:=type) m hdst h2 (hρ s) (hρ x) he
      simpa [resolve,invoke,builtin] using g.done
     ·cases he
    ·have ha':args=#[s,x]:=by apply Array.ext'; simpa using ha
     have ht':argTypes=#[t,t']:=by apply Array.ext'; simpa using ht
     subst ha' ht'
     have g:=appendZE_sound (ty:=type) m hdst (hρ s) (hρ x) he
     simpa [resolve,invoke,builtin] using g.done
   ·cases he
  ·split at he
   ·rename_i x y ha
    split at he
    ·rename_i k a k' b hx hy
     split at he
     ·rename_i hk
      subst hk
      simp only [pureE,Option.some.injEq,Prod.mk.injEq] at he
      obtain ⟨rfl,rfl⟩:=he
      have ha':args=#[x,y]:=by apply Array.ext'; simpa using ha
      subst ha'
      have h1:=hρ x
      have h2:=hρ y
      rw [hx] at h1
      rw [hy] at h2
      simp only [RepA,RepD] at h1 h2
      have g:=Done.still m (s:=Builtin.max_ argTypes type (#[x,y].map ev)) (u:=.int k' (if b>a then b else a)) (by simp [Builtin.max_,Builtin.max2,h1,h2]) (show RepA h (.int k' (if b>a then b else a)) (.d (.int k' (if b>a then b else a))) by simp only [RepA,RepD])
      simpa [resolve,invoke,builtin] using g
     ·cases he
    ·cases he
   ·rename_i x r hno ha
    split at he
    ·rename_i k a hx
     simp only [Option.map_eq_some_iff,Prod.mk.injEq] at he
     obtain ⟨n,hn,rfl,rfl⟩:=he
     have h1:=hρ x
     rw [hx] at h1
     simp only [RepA,RepD] at h1
     have hargs:(args.map ev).toList=.int k a::r.map ev:=by rw [Array.toList_map,ha,List.map_cons,h1]
     have g:=Done.still m (s:=Builtin.max_ argTypes type (args.map ev)) (u:=.int k n) (by
      unfold Builtin.max_
      rw [hargs]
      exact foldA_sound hρ (fun a b=>rfl) r a n hn) (show RepA h (.int k n) (.d (.int k n)) by simp only [RepA,RepD])
     simpa [resolve,invoke,builtin] using g
    ·cases he
   ·cases he
  ·split at he
   ·rename_i x y ha
    split at he
    ·rename_i k a k' b hx hy
     split at he
     ·rename_i hk
      subst hk
      simp only [pureE,Option.some.injEq,Prod.mk.injEq] at he
      obtain ⟨rfl,rfl⟩:=he
      have ha':args=#[x,y]:=by apply Array.ext'; simpa using ha
      subst ha'
      have h1:=hρ x
      have h2:=hρ y
      rw [hx] at h1
      rw [hy] at h2
      simp only [RepA,RepD] at h1 h2
      have g:=Done.still m (s:=Builtin.min_ argTypes type (#[x,y].map ev)) (u:=.int k' (if b<a then b else a)) (by simp [Builtin.min_,Builtin.min2,h1,h2]) (show RepA h (.int k' (if b<a then b else a)) (.d (.int k' (if b<a then b else a))) by simp only [RepA,RepD])
      simpa [resolve,invoke,builtin] using g
     ·cases he
    ·cases he
   ·rename_i x r hno ha
    split at he
    ·rename_i k a hx
     simp only [Option.map_eq_some_iff,Prod.mk.injEq] at he
     obtain ⟨n,hn,rfl,rfl⟩:=he
     have h1:=hρ x
     rw [hx] at h1
     simp only [RepA,RepD] at h1
     have hargs:(args.map ev).toList=.int k a::r.map ev:=by rw [Array.toList_map,ha,List.map_cons,h1]
     have g:=Done.still m (s:=Builtin.min_ argTypes type (args.map ev)) (u:=.int k n) (by
      unfold Builtin.min_
      rw [hargs]
      exact foldA_sound hρ (fun a b=>rfl) r a n hn) (show RepA h (.int k n) (.d (.int k n)) by simp only [RepA,RepD])
     simpa [resolve,invoke,builtin] using g
    ·cases he
   ·cases he
  ·cases he
mutual
def cvA (r:Nat→Option Nat) (bl:Nat→Blk) (kn:Bool):AV→AV×List Nat
 | .d x=>(.d x,[])
 | .un=>(.un,[])
 | .sk=>(.sk,[])
 | .nils=>(if kn then .nils else .d (.sl []),[])
 | .dp cs=>(.dp cs,[])
 | .ptr n i j=>match r n with
   | some m=>(.ptr m i j,[])
   | none=>(.un,[])
 | .ref n lo len sz=>match r n with
   | some m=>(.ref m lo len sz,[])
   | none=>match toD bl (.ref n lo len sz) with
     | some (x,l)=>(.d x,l)
     | none=>(.un,[])
 | .mref n=>match r n with
   | some m=>(.mref m,[])
   | none=>(.un,[])
 | .anyb=>(.anyb,[])
 | .agg cs=>(.agg (cvAs r bl kn cs).1,(cvAs r bl kn cs).2)
 | .tup cs=>(.tup (cvAs r bl kn cs).1,(cvAs r bl kn cs).2)
 | .clo f caps=>(.clo f (cvAs r bl kn caps).1,(cvAs r bl kn caps).2)
 | .bnd f caps=>(.bnd f (cvAs r bl kn caps).1,(cvAs r bl kn caps).2)
def cvAs (r:Nat→Option Nat) (bl:Nat→Blk) (kn:Bool):List AV→List AV×List Nat
 | []=>([],[])
 | c::cs=>((cvA r bl kn c).1::(cvAs r bl kn cs).1,(cvA r bl kn c).2++(cvAs r bl kn cs).2)
end
def cvB (r:Nat→Option Nat) (bl:Nat→Blk) (kn:Bool):Blk→Blk×List Nat
 | .var cells=>(.var (cvAs r bl kn cells).1,(cvAs r bl kn cells).2)
 | .varr ety sz xs=>(.varr ety sz (xs.map fun x=>(cvAs r bl kn x).1),xs.flatMap fun x=>(cvAs r bl kn x).2)
 | b=>(b,[])
structure Held (h h1:Gh) (bl:Nat→Blk) (l:List Nat):Prop where
 le:MuLe h.μ h1.μ
 L:h1.L=h.L
 els:∀ n∈l,∀ e s xs f,bl n=.arr e s xs f→∀ loc,h.L n=some loc→loc.nul=false→RepEls h1.μ loc.blk 0 s xs
 other:∀ b,(∀ n∈l,∀ loc,h.L n=some loc→loc.nul=false→b ≠ loc.blk)→∀ o,h1.μ b o=h.μ b o
theorem hold_all {C:Ctx} {w:World}:∀ (l:List Nat) (bl:Nat→Blk) (h:Gh),Mem C bl w h→(∀ n∈l,∃ e s xs f,bl n=.arr e s xs f) →
  ∃ h1,Held h h1 bl l∧Mem C (upds bl (frzW bl l)) w h1
 | [],bl,h,m,_=>⟨h,⟨fun _ _ _ e=>e,rfl,(fun n hn=>by cases hn),fun _ _ _=>rfl⟩,by simpa [frzW,upds] using m⟩
 | n::l,bl,h,m,ha=>by
   obtain ⟨e,s,xs,f,hb⟩:=ha n List.mem_cons_self
   obtain ⟨h',le,hL,m',hels,hoth⟩:=m.freeze hb
   have hb':(bl n).frzd=.arr e s xs true:=by rw [hb]; rfl
   have hup:upd bl n (.arr e s xs true)=upds bl (frzW bl [n]):=by simp [frzW,upds,hb']
   rw [hup] at m'
   obtain ⟨h1,hd,m1⟩:=hold_all l _ h' m' (fun k hk=>by
    obtain ⟨e',s',xs',f',hk'⟩:=ha k (List.mem_cons_of_mem _ hk)
    rw [upds_frz]
    split
    ·exact ⟨e',s',xs',true,by rw [hk']; rfl⟩
    ·exact ⟨e',s',xs',f',hk'⟩)
   rw [upds_frz_twice] at m1
   refine ⟨h1,⟨fun b o v e0=>hd.le b o v (le.μ b o v e0),hd.L.trans hL,fun k hk e' s' xs' f' hk' loc hloc hnul=>?_,fun b hbn o=>?_⟩,m1⟩
   rotate_left
   ·rw [hd.other b (fun k hk loc hloc=>hbn k (List.mem_cons_of_mem _ hk) loc (by rw [← hL]; exact hloc)) o]
    exact hoth b (hbn n List.mem_cons_self) o
   rcases List.mem_cons.1 hk with rfl | hk2
   ·rw [hb] at hk'; cases hk'
    exact RepEls_mono hd.le _ _ _ _ (hels loc hloc hnul)
   ·by_cases hkn:k=n
    ·subst hkn
     rw [hb] at hk'; cases hk'
     exact RepEls_mono hd.le _ _ _ _ (hels loc hloc hnul)
    ·exact hd.els k hk2 e' s' xs' f' (by rw [upds_frz,if_neg (by simpa using hkn)]; exact hk') loc (by rw [hL]; exact hloc) hnul
structure Ren (h h':Gh) (r:Nat→Option Nat):Prop where
 μ:MuLe h.μ h'.μ
 L:∀ n m loc,r n=some m→h.L n=some loc→h'.L m=some loc
theorem ref_data {h h':Gh} {w:World} {bl:Nat→Blk} (hb:∀ n,(bl n).live=true→RepB h w n (bl n)) {n lo len sz:Nat} {x:D} {l:List Nat} {v:Value} (hr:RepA h v (.ref n lo len sz)) (ht:toD bl (.ref n lo len sz)=some (x,l))
  (hels:∀ k∈l,∀ e s xs f,bl k=.arr e s xs f→∀ loc,h.L k=some loc→loc.nul=false→RepEls h'.μ loc.blk 0 s xs):RepD h'.μ v x:=by
 simp only [toD] at ht
 split at ht
 ·rename_i e s xs f hbl
  split at ht <;> simp only [Option.some.injEq,Prod.mk.injEq,reduceCtorEq] at ht
  rename_i hle
  obtain ⟨rfl,rfl⟩:=ht
  simp only [RepA] at hr
  obtain ⟨l,hl,hsz,hx⟩:=hr
  have hb:=hb n (by rw [hbl]; rfl)
  rw [hbl] at hb
  obtain ⟨l',hl',hs,_,_⟩:=hb
  rw [hl] at hl'; cases hl'
  subst hs
  simp only [RepD]
  have hlen:((xs.drop lo).take len).length=len:=by simp; omega
  split at hx
  ·obtain ⟨rfl,rfl,rfl⟩:=hx
   exact ⟨none,0,by simp,by simp,.inl (by simp)⟩
  ·rename_i hn
   obtain ⟨cap,rfl,hc,_,_⟩:=hx
   refine ⟨_,cap,by rw [hlen],by rw [hlen]; exact hc,.inr ⟨l.blk,lo*l.sz,l.sz,rfl,?_⟩⟩
   have:=hels n (by simp) _ _ _ _ hbl l hl (by simpa using hn)
   rw [RepEls_iff] at this ⊢
   intro i y hi
   rw [List.getElem?_take] at hi
   split at hi
   ·rw [List.getElem?_drop] at hi
    have:=this _ y hi
    rwa [Nat.zero_add,Nat.add_mul] at this
   ·cases hi
 ·cases ht
mutual
theorem cvA_rep {h h':Gh} {w:World} {bl:Nat→Blk} {r:Nat→Option Nat} {kn:Bool} (hb:∀ n,(bl n).live=true→RepB h w n (bl n)) (hren:Ren h h' r) {l:List Nat}
  (hels:∀ k∈l,∀ e s xs f,bl k=.arr e s xs f→∀ loc,h.L k=some loc→loc.nul=false→RepEls h'.μ loc.blk 0 s xs) :
  ∀ (c:AV) (v:Value),(∀ k∈(cvA r bl kn c).2,k∈l)→RepA h v c→RepA h' v (cvA r bl kn c).1
 | .d x,v,_,hr=>by simp only [RepA,cvA] at *; exact RepD_mono hren.μ x v hr
 | .un,_,_,_=>by simp [RepA,cvA]
 | .sk,_,_,hr=>by simpa [RepA,cvA] using hr
 | .nils,v,_,hr=>by
   simp only [RepA,cvA] at *
   subst hr
   cases kn <;> simp [RepA,RepD]
 | .dp cs,v,_,hr=>by
   simp only [RepA,cvA] at *
   obtain ⟨b,o,h1,h2⟩:=hr
   exact ⟨b,o,h1,RepCells_mono hren.μ cs b o h2⟩
 | .ptr n i j,v,_,hr=>by
   simp only [cvA]
   split
   ·rename_i m hm
    simp only [RepA] at *
    obtain ⟨loc,h1,h2⟩:=hr
    exact ⟨loc,hren.L n m loc hm h1,h2⟩
   ·simp [RepA]
 | .anyb,v,_,hr=>by simpa [RepA,cvA] using hr
 | .mref n,v,_,hr=>by
   simp only [cvA]
   split
   ·rename_i m hm
    simp only [RepA] at *
    obtain ⟨loc,h1,h2⟩:=hr
    exact ⟨loc,hren.L n m loc hm h1,h2⟩
   ·simp [RepA]
 | .ref n lo len sz,v,hl,hr=>by
   simp only [cvA] at *
   split
   ·rename_i m hm
    simp only [RepA] at *
    obtain ⟨loc,h1,h2⟩:=hr
    exact ⟨loc,hren.L n m loc hm h1,h2⟩
   ·rename_i hm
    split
    ·rename_i x l' ht
     simp only [hm,ht] at hl
     simp only [RepA]
     exact ref_data hb hr ht (fun k hk=>hels k (hl k hk))
    ·simp [RepA]
 | .agg cs,v,hl,hr=>by
   simp only [RepA,cvA] at *
   obtain ⟨arr,h1,h2⟩:=hr
   exact ⟨arr,h1,cvAs_rep hb hren hels cs arr hl h2⟩
 | .tup cs,v,hl,hr=>by
   simp only [RepA,cvA] at *
   obtain ⟨arr,h1,h2⟩:=hr
   exact ⟨arr,h1,cvAs_rep hb hren hels cs arr hl h2⟩
 | .clo f caps,v,hl,hr=>by
   simp only [RepA,cvA] at *
   obtain ⟨arr,h1,h2⟩:=hr
   exact ⟨arr,h1,cvAs_rep hb hren hels caps arr hl h2⟩
 | .bnd f caps,v,hl,hr=>by
   simp only [RepA,cvA] at *
   obtain ⟨arr,h1,h2⟩:=hr
   exact ⟨arr,h1,cvAs_rep hb hren hels caps arr hl h2⟩
theorem cvAs_rep {h h':Gh} {w:World} {bl:Nat→Blk} {r:Nat→Option Nat} {kn:Bool} (hb:∀ n,(bl n).live=true→RepB h w n (bl n)) (hren:Ren h h' r) {l:List Nat}
  (hels:∀ k∈l,∀ e s xs f,bl k=.arr e s xs f→∀ loc,h.L k=some loc→loc.nul=false→RepEls h'.μ loc.blk 0 s xs) :
  ∀ (cs:List AV) (vs:List Value),(∀ k∈(cvAs r bl kn cs).2,k∈l)→RepAs h vs cs→RepAs h' vs (cvAs r bl kn cs).1
 | [],vs,_,hr=>by simpa [RepAs,cvAs] using hr
 | c::cs,vs,hl,hr=>by
   simp only [RepAs,cvAs] at *
   obtain ⟨u,us,h1,h2,h3⟩:=hr
   exact ⟨u,us,h1,cvA_rep hb hren hels c u (fun k hk=>hl k (List.mem_append_left _ hk)) h2,cvAs_rep hb hren hels cs us (fun k hk=>hl k (List.mem_append_right _ hk)) h3⟩
end
theorem cvAs_get {r:Nat→Option Nat} {bl:Nat→Blk} {kn:Bool}:∀ (cs:List AV),(cvAs r bl kn cs).1=cs.map fun c=>(cvA r bl kn c).1
 | []=>by simp [cvAs]
 | c::cs=>by simp [cvAs,cvAs_get cs]
theorem cvAs_two {r:Nat→Option Nat} {bl:Nat→Blk} {kn:Bool}:∀ (cs:List AV),(cvAs r bl kn cs).2=cs.flatMap fun c=>(cvA r bl kn c).2
 | []=>by simp [cvAs]
 | c::cs=>by simp [cvAs,cvAs_two cs]
theorem cvB_rep {h h':Gh} {w:World} {bl:Nat→Blk} {r:Nat→Option Nat} {kn:Bool} (hb:∀ n,(bl n).live=true→RepB h w n (bl n)) (hren:Ren h h' r) {l:List Nat}
  (hels:∀ k∈l,∀ e s xs f,bl k=.arr e s xs f→∀ loc,h.L k=some loc→loc.nul=false→RepEls h'.μ loc.blk 0 s xs)
  {n m:Nat} (hnm:r n=some m) {b:Blk} {w':World} (hlive:b.live=true) (hrb:RepB h w n b) (hl:∀ k∈(cvB r bl kn b).2,k∈l) (hheap:∀ loc,h.L n=some loc→loc.nul=false→w'.heap[loc.blk]?=w.heap[loc.blk]?)
  (hmu:∀ loc,h.L n=some loc→loc.nul=false→∀ o v,h'.μ loc.blk o=some v→h.μ loc.blk o=some v):RepB h' w' m (cvB r bl kn b).1:=by
 cases b <;> simp only [cvB] at*<;> first | (simp [Blk.live] at hlive; done) | skip
 case var cells =>
  obtain ⟨loc,cs,ety,h1,h2,h3,h4,h5⟩:=hrb
  refine ⟨loc,cs,ety,hren.L n m loc hnm h1,h2,(hheap loc h1 h2).trans h3,cvAs_rep hb hren hels cells cs hl h4,fun o=>?_⟩
  cases e:h'.μ loc.blk o with
  | none=>rfl
  | some v=>have:=hmu loc h1 h2 o v e; rw [h5] at this; cases this
 case arr ety sz xs frz =>
  obtain ⟨loc,h1,h2,h3,h4⟩:=hrb
  refine ⟨loc,hren.L n m loc hnm h1,h2,h3,?_⟩
  cases hn:loc.nul with
  | true=>rw [hn] at h4; simpa using h4
  | false =>
    rw [hn] at h4
    obtain ⟨cs,h5,h6,h7,h8,h9⟩:=h4
    simp only [Bool.false_eq_true,if_false]
    refine ⟨cs,(hheap loc h1 hn).trans h5,h6,h7,fun i x hx=>⟨(h8 i x hx).1,fun j c hc=>?_⟩,fun o v hv=>h9 o v (hmu loc h1 hn o v hv)⟩
    obtain ⟨v,hv,hr⟩:=(h8 i x hx).2 j c hc
    exact ⟨v,hv,RepD_mono hren.μ c v hr⟩
 case mp es =>
  obtain ⟨loc,es',clock,h1,h2,h3,h4,h5,h6⟩:=hrb
  refine ⟨loc,es',clock,hren.L n m loc hnm h1,h2,(hheap loc h1 h2).trans h3,RepEnts_mono hren.μ _ _ h4,h5,fun o=>?_⟩
  cases e:h'.μ loc.blk o with
  | none=>rfl
  | some v=>have:=hmu loc h1 h2 o v e; rw [h6] at this; cases this
 case varr ety sz xs =>
  obtain ⟨loc,h1,h2,h3,h4⟩:=hrb
  refine ⟨loc,hren.L n m loc hnm h1,h2,h3,?_⟩
  cases hn:loc.nul with
  | true=>rw [hn] at h4; simpa using h4
  | false =>
    rw [hn] at h4
    obtain ⟨cs,h5,h6,h7,h8,h9⟩:=h4
    simp only [Bool.false_eq_true,if_false]
    refine ⟨cs,(hheap loc h1 hn).trans h5,h6,by simpa using h7,fun i x hx=>?_,fun o=>?_⟩
    ·rw [List.getElem?_map,Option.map_eq_some_iff] at hx
     obtain ⟨x0,hx0,rfl⟩:=hx
     refine ⟨by rw [cvAs_get,List.length_map]; exact (h8 i x0 hx0).1,fun j c hc=>?_⟩
     rw [cvAs_get,List.getElem?_map,Option.map_eq_some_iff] at hc
     obtain ⟨c0,hc0,rfl⟩:=hc
     obtain ⟨v,hv,hr⟩:=(h8 i x0 hx0).2 j c0 hc0
     exact ⟨v,hv,cvA_rep hb hren hels c0 v (fun k hk=>hl k (List.mem_flatMap.2 ⟨x0,List.mem_iff_getElem?.2 ⟨i,hx0⟩,by rw [cvAs_two]; exact List.mem_flatMap.2 ⟨c0,List.mem_iff_getElem?.2 ⟨j,hc0⟩,hk⟩⟩)) hr⟩
    ·cases e:h'.μ loc.blk o with
     | none=>rfl
     | some v=>have:=hmu loc h1 hn o v e; rw [h9] at this; cases this
 case iter s i =>
  obtain ⟨loc,h1,h2,h3,h5⟩:=hrb
  refine ⟨loc,hren.L n m loc hnm h1,h2,(hheap loc h1 h2).trans h3,fun o=>?_⟩
  cases e:h'.μ loc.blk o with
  | none=>rfl
  | some v=>have:=hmu loc h1 h2 o v e; rw [h5] at this; cases this
structure Env where
 P:Program
 G:Nat→Option (List D)
def blkOf (B:List Blk):Nat→Blk:=fun n=>if firstName≤n then (B[n - firstName]?).getD .free else .free
def baseOf (h:Gh) (B:List Blk):List Nat:=(List.range B.length).filterMap fun j=>(h.L (firstName+j)).bind fun l=>if l.nul then none else some l.blk
def ctxOf (E:Env) (w:World) (h:Gh) (B:List Blk):Ctx:=⟨E.P,E.G,w,h,baseOf h B,[]⟩
def enterable (P:Program) (f:FuncId):Bool :=
 match P.funcs[f]? with
 | some fn => fn.name != "runtime.NumGoroutine" && fn.body.isSome
 | none=>false
def Cf (E:Env) (f:FuncId) (xs:List AV) (B:List Blk) (y:AV) (B':List Blk):Prop :=
 enterable E.P f=true∧∀ (w:World) (h:Gh) (vs:List Value),RepAs h vs xs→Mem (ctxOf E w h B) (blkOf B) w h →
  Calls E.P f ⟨vs⟩ w fun e w'=>∃ v h',e=.returned v∧RepA h' v y∧Mem (ctxOf E w h B) (blkOf B') w' h'
def newName (d j:Nat):Nat:=1000*(d+1)+j
def nameBack (ks:List Nat) (d j:Nat):Nat:=if j<ks.length then ks.getD j 0 else newName d (j - ks.length)
def fwdR (ks:List Nat):Nat→Option Nat:=fun n=>(ks.idxOf? n).map (firstName+·)
def backR (ks:List Nat) (d:Nat):Nat→Option Nat:=fun n=>if firstName≤n then some (nameBack ks d (n - firstName)) else none
def callArgs (ks:List Nat) (bl:Nat→Blk) (args:List AV):List AV×List Nat:=cvAs (fwdR ks) bl false args
def callBlks (ks:List Nat) (bl:Nat→Blk):List (Blk×List Nat):=ks.map fun n=>cvB (fwdR ks) bl true (bl n)
def callFrz (ks:List Nat) (bl:Nat→Blk) (args:List AV):List Nat:=(callArgs ks bl args).2++(callBlks ks bl).flatMap (·.2)
def callRes (ks:List Nat) (d:Nat) (y:AV):AV:=(cvA (backR ks d) (fun _=>.dead) true y).1
def callOut (ks:List Nat) (d:Nat) (B':List Blk):List (Nat×Blk):=(List.range B'.length).map fun j=>(nameBack ks d j,(cvB (backR ks d) (fun _=>.dead) true (B'.getD j .dead)).1)
structure CallOk (E:Env) (f:FuncId) (args:List AV) (bl:Nat→Blk) (ks:List Nat) (d:Nat) (y:AV) (B':List Blk):Prop where
 nodup:ks.Nodup
 live:∀ n∈ks,(bl n).live=true
 len:ks.length≤B'.length
 free:∀ j,j<B'.length - ks.length→bl (newName d j)=.free
 low:newName d (B'.length - ks.length)≤firstName
 cf:∃ kn,Cf E f (cvAs (fwdR ks) bl kn args).1 ((callBlks ks bl).map (·.1)) y B'
mutual
theorem cvA_kn {r:Nat→Option Nat} {bl:Nat→Blk} {kn:Bool}:∀ (c:AV),(cvA r bl kn c).2=(cvA r bl false c).2
 | .d _=>rfl
 | .un=>rfl
 | .sk=>rfl
 | .nils=>rfl
 | .dp _=>rfl
 | .ptr ..=>rfl
 | .ref ..=>rfl
 | .mref n=>by simp only [cvA]
 | .anyb=>rfl
 | .agg cs=>by simp only [cvA]; exact cvAs_kn cs
 | .tup cs=>by simp only [cvA]; exact cvAs_kn cs
 | .clo f cs=>by simp only [cvA]; exact cvAs_kn cs
 | .bnd f cs=>by simp only [cvA]; exact cvAs_kn cs
theorem cvAs_kn {r:Nat→Option Nat} {bl:Nat→Blk} {kn:Bool}:∀ (cs:List AV),(cvAs r bl kn cs).2=(cvAs r bl false cs).2
 | []=>rfl
 | c::cs=>by simp only [cvAs]; rw [cvA_kn c,cvAs_kn cs]
end
mutual
theorem cvA_arr {r:Nat→Option Nat} {bl:Nat→Blk} {kn:Bool}:∀ (c:AV) (k:Nat),k∈(cvA r bl kn c).2→r k=none∧∃ e s xs f,bl k=.arr e s xs f
 | .d _,k,h=>by simp [cvA] at h
 | .un,k,h=>by simp [cvA] at h
 | .sk,k,h=>by simp [cvA] at h
 | .nils,k,h=>by simp [cvA] at h
 | .dp _,k,h=>by simp [cvA] at h
 | .ptr n i j,k,h=>by simp only [cvA] at h; split at h <;> simp at h
 | .ref n lo len sz,k,h=>by
   simp only [cvA] at h
   split at h
   ·simp at h
   ·rename_i hr
    split at h
    ·rename_i x l ht
     simp only [toD] at ht
     split at ht
     ·rename_i e s xs f hb
      split at ht <;> simp only [Option.some.injEq,Prod.mk.injEq,reduceCtorEq] at ht
      obtain ⟨_,rfl⟩:=ht
      simp only [List.mem_singleton] at h
      subst h
      exact ⟨hr,e,s,xs,f,hb⟩
     ·cases ht
    ·simp at h
 | .mref n,k,h=>by simp only [cvA] at h; split at h <;> simp at h
 | .anyb,k,h=>by simp [cvA] at h
 | .agg cs,k,h=>by simp only [cvA] at h; exact cvAs_arr cs k h
 | .tup cs,k,h=>by simp only [cvA] at h; exact cvAs_arr cs k h
 | .clo f cs,k,h=>by simp only [cvA] at h; exact cvAs_arr cs k h
 | .bnd f cs,k,h=>by simp only [cvA] at h; exact cvAs_arr cs k h
theorem cvAs_arr {r:Nat→Option Nat} {bl:Nat→Blk} {kn:Bool}:∀ (cs:List AV) (k:Nat),k∈(cvAs r bl kn cs).2→r k=none∧∃ e s xs f,bl k=.arr e s xs f
 | [],k,h=>by simp [cvAs] at h
 | c::cs,k,h=>by
   simp only [cvAs] at h
   rcases List.mem_append.1 h with h | h
   ·exact cvA_arr c k h
   ·exact cvAs_arr cs k h
end
theorem fwdR_get {ks:List Nat} (hn:ks.Nodup) {j n:Nat} (hj:ks[j]?=some n):fwdR ks n=some (firstName+j):=by
 obtain ⟨hlt,rfl⟩:=List.getElem?_eq_some_iff.1 hj
 unfold fwdR
 rw [List.idxOf?_eq_some_iff.2 ⟨hlt,rfl,fun i hi e=>?_⟩]
 ·rfl
 ·exact absurd ((List.getElem_inj hn).1 e) (by omega)
theorem fwdR_some {ks:List Nat} {n m:Nat} (h:fwdR ks n=some m):∃ j,ks[j]?=some n∧m=firstName+j:=by
 unfold fwdR at h
 simp only [Option.map_eq_some_iff] at h
 obtain ⟨j,hj,rfl⟩:=h
 obtain ⟨hlt,h1,_⟩:=List.idxOf?_eq_some_iff.1 hj
 exact ⟨j,List.getElem?_eq_some_iff.2 ⟨hlt,h1⟩,rfl⟩
theorem upds_range_ne {bl:Nat→Blk} {f:Nat→Nat} {g:Nat→Blk} {n:Nat}:∀ {k:Nat},(∀ j,j<k→f j ≠ n)→upds bl ((List.range k).map fun j=>(f j,g j)) n=bl n
 | 0,_=>by simp [upds]
 | k+1,hn=>by
   rw [List.range_succ,List.map_append,upds_append]
   simp only [List.map_cons,List.map_nil,upds,upd]
   rw [if_neg (fun e=>hn k (by omega) e.symm),upds_range_ne fun j hj=>hn j (by omega)]
theorem upds_range_at {bl:Nat→Blk} {f:Nat→Nat} {g:Nat→Blk}:∀ {k:Nat},(∀ i j,i<k→j<k→f i=f j→i=j)→∀ {j:Nat},j<k →
  upds bl ((List.range k).map fun j=>(f j,g j)) (f j)=g j
 | 0,_,j,hj=>by omega
 | k+1,hinj,j,hj=>by
   rw [List.range_succ,List.map_append,upds_append]
   simp only [List.map_cons,List.map_nil,upds,upd]
   by_cases e:f j=f k
   ·rw [if_pos e,hinj j k hj (by omega) e]
   ·rw [if_neg e]
    exact upds_range_at (fun i j hi hj=>hinj i j (by omega) (by omega)) (by
     rcases Nat.lt_or_ge j k with c | c
     ·exact c
     ·exact absurd (by rw [show j=k from by omega]) e)
theorem mem_baseOf {h:Gh} {B:List Blk} {b:Nat}:b∈baseOf h B↔∃ j l,j<B.length∧h.L (firstName+j)=some l∧l.nul=false∧l.blk=b:=by
 unfold baseOf
 simp only [List.mem_filterMap,List.mem_range,Option.bind_eq_some_iff]
 constructor
 ·rintro ⟨j,hj,l,hl,h⟩
  split at h <;> simp only [Option.some.injEq,reduceCtorEq] at h
  rename_i hn
  exact ⟨j,l,hj,hl,by simpa using hn,h⟩
 ·rintro ⟨j,l,hj,hl,hn,h⟩
  exact ⟨j,hj,l,hl,by simp [hn,h]⟩
theorem cvB_arr {r:Nat→Option Nat} {bl:Nat→Blk} {kn:Bool} {b:Blk} {k:Nat} (hk:k∈(cvB r bl kn b).2):r k=none∧∃ e s xs f,bl k=.arr e s xs f:=by
 cases b <;> simp only [cvB] at hk <;> first | (cases hk; done) | skip
 ·exact cvAs_arr _ k hk
 ·obtain ⟨x,_,hx⟩:=List.mem_flatMap.1 hk
  exact cvAs_arr _ k hx
theorem call_sound {E:Env} {C:Ctx} (hP:C.P=E.P) (hG:C.G=E.G) {bl blr:Nat→Blk} (hbr:∀ n,blr n ≠ .dead→blr n=bl n) {w:World} {h:Gh} (m:Mem C bl w h) {f:FuncId} {args:List AV} {vs:List Value} (hr:RepAs h vs args)
  {ks:List Nat} {d:Nat} {y:AV} {B':List Blk} (ok:CallOk E f args blr ks d y B') :
  Calls C.P f ⟨vs⟩ w fun e w'=>∃ v h',e=.returned v∧h.le h'∧Mem C (upds bl (frzW blr (callFrz ks blr args)++callOut ks d B')) w' h'∧RepA h' v (callRes ks d y):=by
 have hfr:∀ k∈callFrz ks blr args,fwdR ks k=none∧∃ e s xs f,blr k=.arr e s xs f:=by
  intro k hk
  rcases List.mem_append.1 hk with hk | hk
  ·exact cvAs_arr _ k hk
  ·simp only [callBlks,List.mem_flatMap,List.mem_map] at hk
   obtain ⟨b,⟨n,_,rfl⟩,hk⟩:=hk
   exact cvB_arr hk
 have harr:∀ k∈callFrz ks blr args,∃ e s xs f,bl k=.arr e s xs f:=fun k hk=>by
  obtain ⟨_,e,s,xs,f,hb⟩:=hfr k hk
  exact ⟨e,s,xs,f,by rw [← hbr k (by rw [hb]; simp)]; exact hb⟩
 have hfw:frzW blr (callFrz ks blr args)=frzW bl (callFrz ks blr args):=by
  unfold frzW
  apply List.map_congr_left
  intro k hk
  obtain ⟨_,e,s,xs,f,hb⟩:=hfr k hk
  rw [hbr k (by rw [hb]; simp)]
 rw [hfw]
 have hlr:∀ n,(blr n).live=true→blr n=bl n:=fun n hn=>hbr n (fun e=>by rw [e] at hn; cases hn)
 have hrb:∀ n,(blr n).live=true→RepB h w n (blr n):=fun n hn=>by rw [hlr n hn]; exact m.blks n
 obtain ⟨h1,held',m1⟩:=hold_all (callFrz ks blr args) bl h m harr
 have held:Held h h1 blr (callFrz ks blr args):=⟨held'.le,held'.L,fun n hn e s xs f hb=>held'.els n hn e s xs f (by rw [← hbr n (by rw [hb]; simp)]; exact hb),held'.other⟩
 have hks:∀ (j n:Nat),ks[j]?=some n→(bl n).live=true∧n ∉ callFrz ks blr args∧∃ l,h.L n=some l:=by
  intro j n hj
  have hl0:=ok.live n (List.mem_of_getElem? hj)
  have hl:(bl n).live=true:=by rw [← hlr n hl0]; exact hl0
  exact ⟨hl,(fun hc=>by have:=(hfr n hc).1; rw [fwdR_get ok.nodup hj] at this; cases this),live_loc (m.blks n) hl⟩
 have hbl1:∀ n,n ∉ callFrz ks blr args→upds bl (frzW bl (callFrz ks blr args)) n=bl n:=fun n hn=>by rw [upds_frz,if_neg hn]
 have hlive1:∀ n,(upds bl (frzW bl (callFrz ks blr args)) n).live=(bl n).live:=fun n=>by
  rw [upds_frz]; split
  ·cases bl n <;> rfl
  ·rfl
 let hc:Gh:={ μ:=h1.μ,L:=fun n=>if firstName≤n then (ks[n - firstName]?).bind h1.L else none }
 have hcL:∀ j,hc.L (firstName+j)=(ks[j]?).bind h1.L:=fun j=>by
  simp only [hc,if_pos (Nat.le_add_right firstName j),Nat.add_sub_cancel_left]
 have hcN:∀ (j n:Nat),ks[j]?=some n→hc.L (firstName+j)=h.L n:=fun j n hj=>by rw [hcL,hj,Option.bind_some,held.L]
 have ren:Ren h hc (fwdR ks):=⟨held.le,fun n k loc hk hl=>by
  obtain ⟨j,hj,rfl⟩:=fwdR_some hk
  rw [hcN j n hj]; exact hl⟩
 have hB:∀ (j n:Nat),ks[j]?=some n→((callBlks ks blr).map (·.1))[j]?=some (cvB (fwdR ks) blr true (blr n)).1:=fun j n hj=>by
  simp [callBlks,hj]
 have hBlen:((callBlks ks blr).map (·.1)).length=ks.length:=by simp [callBlks]
 have hnone:∀ n:Nat,(firstName≤n→ks[n - firstName]?=none)→blkOf ((callBlks ks blr).map (·.1)) n=.free∧hc.L n=none:=fun n hn=>by
  unfold blkOf
  by_cases c:firstName≤n
  ·have hk:=hn c
   have hlen:=List.getElem?_eq_none_iff.1 hk
   refine ⟨?_,?_⟩
   ·rw [if_pos c,List.getElem?_eq_none (by rw [hBlen]; exact hlen)]; rfl
   ·simp only [hc,if_pos c,hk,Option.bind_none]
  ·exact ⟨by rw [if_neg c],by simp only [hc,if_neg c]⟩
 have hsome:∀ (n j k:Nat),ks[j]?=some k→n=firstName+j→blkOf ((callBlks ks blr).map (·.1)) n=(cvB (fwdR ks) blr true (blr k)).1:=fun n j k hj e=>by
  subst e
  unfold blkOf
  rw [if_pos (Nat.le_add_right _ _),Nat.add_sub_cancel_left,hB j k hj]; rfl
 have livecv:∀ (r:Nat→Option Nat) (bb:Nat→Blk) (kn:Bool) (b:Blk),(cvB r bb kn b).1.live=b.live:=fun r bb kn b=>by cases b <;> rfl
 have mc:Mem (ctxOf E w hc ((callBlks ks blr).map (·.1))) (blkOf ((callBlks ks blr).map (·.1))) w hc:=by
  refine ⟨fun n=>?_,m1.con,fun g cs hg=>m1.glob g cs (by rw [hG]; exact hg),?_,?_,Nat.le_refl _,fun _ _ _=>rfl,fun _ _ _ e=>e,fun _ _ _ _ _ e=>e,fun _ _ _ e=>e,rfl,rfl,rfl,fun g cs hg=>by
   obtain ⟨k1,k2,a,ety,z,k3,k4⟩:=m.know g cs (by rw [hG]; exact hg)
   refine ⟨Nat.lt_of_lt_of_le k1 m.size,fun hb=>?_,a,ety,z,(m.frame g k1 k2).trans k3,k4⟩
   obtain ⟨j,l',hj,hl',hn',rfl⟩:=mem_baseOf.1 hb
   rw [hBlen] at hj
   have hk:ks[j]?=some ks[j]:=List.getElem?_eq_getElem hj
   rw [hcN j _ hk] at hl'
   rcases m.own _ l' (hks j _ hk).1 hl' hn' with c | c
   ·omega
   ·exact k2 c⟩
  ·cases hk:(if firstName≤n then ks[n - firstName]? else none) with
   | none =>
     obtain ⟨a,b⟩:=hnone n (fun c=>by rw [if_pos c] at hk; exact hk)
     rw [a]; exact b
   | some k =>
     have hn:firstName≤n:=by
      rcases Nat.lt_or_ge n firstName with c | c
      ·rw [if_neg (by omega)] at hk; cases hk
      ·exact c
     rw [if_pos hn] at hk
     have en:n=firstName+(n - firstName):=by omega
     rw [hsome n _ k hk en]
     obtain ⟨hl,hnf,_⟩:=hks _ k hk
     refine cvB_rep (h:=h) (h':=hc) (w:=w) (l:=callFrz ks blr args) hrb ren held.els (n:=k) (by rw [fwdR_get ok.nodup hk,← en]) (ok.live k (List.mem_of_getElem? hk)) (hrb k (ok.live k (List.mem_of_getElem? hk))) (fun q hq=>?_) (fun _ _ _=>rfl) (fun loc e1 e2 o v e3=>?_)
     ·refine List.mem_append_right _ ?_
      simp only [callBlks,List.mem_flatMap,List.mem_map]
      exact ⟨_,⟨k,List.mem_of_getElem? hk,rfl⟩,hq⟩
     ·have:hc.μ loc.blk o=h.μ loc.blk o:=held.other loc.blk (fun q hq l2 e4 e5=>by
       have hqk:q ≠ k:=fun e=>hnf (e ▸ hq)
       obtain ⟨_,e',s',xs',f',hb'⟩:=hfr q hq
       exact (m.apart q k l2 loc hqk (by rw [← hbr q (by rw [hb']; simp),hb']; rfl) hl e4 e1 e5 e2).symm) o
      rw [this] at e3; exact e3
  ·intro i j l l' hij a1 a2 a3 a4 a5 a6
   have get:∀ i l,(blkOf ((callBlks ks blr).map (·.1)) i).live=true→hc.L i=some l→∃ q k:Nat,i=firstName+q∧ks[q]?=some k∧h.L k=some l:=by
    intro i l b1 b2
    simp only [hc] at b2
    split at b2
    ·rename_i c
     simp only [Option.bind_eq_some_iff] at b2
     obtain ⟨k,hk,hl⟩:=b2
     exact ⟨i - firstName,k,by omega,hk,by rw [← held.L]; exact hl⟩
    ·cases b2
   obtain ⟨q,k,rfl,hk,hl⟩:=get i l a1 a3
   obtain ⟨q',k',rfl,hk',hl'⟩:=get j l' a2 a4
   have hkk:k ≠ k':=fun e=>by
    subst e
    have:=fwdR_get ok.nodup hk
    rw [fwdR_get ok.nodup hk'] at this
    simp only [Option.some.injEq] at this
    omega
   exact m.apart k k' l l' hkk (hks q k hk).1 (hks q' k' hk').1 hl hl' a5 a6
  ·intro i l b1 b2 b3
   right
   simp only [ctxOf,mem_baseOf,hBlen]
   simp only [hc] at b2
   split at b2
   ·rename_i c
    have b2':=b2
    simp only [Option.bind_eq_some_iff] at b2
    obtain ⟨k,hk,hl⟩:=b2
    exact ⟨i - firstName,l,(List.getElem?_eq_some_iff.1 hk).1,by rw [hcL]; exact b2',b3,rfl⟩
   ·cases b2
 obtain ⟨kn,hcf⟩:=ok.cf
 have ra:RepAs hc vs (cvAs (fwdR ks) blr kn args).1:=cvAs_rep (h:=h) (w:=w) (l:=callFrz ks blr args) hrb ren held.els args vs (fun k hk=>List.mem_append_left _ (by rw [cvAs_kn] at hk; exact hk)) hr
 rw [hP]
 refine (hcf.2 w hc vs ra mc).mono fun e w'=>?_
 rintro ⟨v,h2,rfl,ry,m2⟩
 have hfree:∀ j,j<B'.length - ks.length→h.L (newName d j)=none:=fun j hj=>by
  have:=m.blks (newName d j); rw [← hbr (newName d j) (by rw [ok.free j hj]; simp),ok.free j hj] at this; exact this
 let n0:=newName d 0
 let h3:Gh:={ μ:=h2.μ,L:=fun n=>if n0≤n∧n<n0+(B'.length - ks.length) then h2.L (firstName+ks.length+(n - n0)) else h1.L n }
 have hnew:∀ j,newName d j=n0+j:=fun j=>by simp only [n0,newName]; omega
 have h3new:∀ j,j<B'.length - ks.length→h3.L (newName d j)=h2.L (firstName+ks.length+j):=fun j hj=>by
  simp only [h3]
  rw [if_pos ⟨by rw [hnew]; omega,by rw [hnew]; omega⟩,hnew,Nat.add_sub_cancel_left]
 have h3old:∀ n,h.L n ≠ none→h3.L n=h.L n:=fun n hn=>by
  simp only [h3]
  rw [if_neg,held.L]
  rintro ⟨c1,c2⟩
  have:=hfree (n - n0) (by omega)
  rw [hnew,show n0+(n - n0)=n from by omega] at this
  exact hn this
 have h3high:∀ n,firstName≤n→h3.L n=h.L n:=fun n hn=>by
  simp only [h3]
  rw [if_neg,held.L]
  rintro ⟨c1,c2⟩
  have:=ok.low
  rw [hnew] at this; omega
 have hle:h.le h3:=⟨fun b o u e=>m2.mext b o u (held.le b o u e),fun n l e=>by rw [h3old n (by rw [e]; simp)]; exact e⟩
 have nb_old:∀ (j n:Nat),ks[j]?=some n→nameBack ks d j=n:=fun j n hj=>by
  unfold nameBack
  rw [if_pos (List.getElem?_eq_some_iff.1 hj).1,List.getD_eq_getElem?_getD,hj]; rfl
 have nb_new:∀ j,nameBack ks d (ks.length+j)=newName d j:=fun j=>by
  unfold nameBack
  rw [if_neg (by omega)]; congr 1; omega
 have h2keep:∀ (j n:Nat),ks[j]?=some n→h2.L (firstName+j)=h.L n:=fun j n hj=>by
  obtain ⟨_,_,l,hl⟩:=hks j n hj
  rw [hl]
  exact m2.lkeep _ l (Nat.le_add_right _ _) (by show hc.L _=_; rw [hcN j n hj]; exact hl)
 have h2free:∀ n,(firstName≤n→B'.length≤n - firstName)→h2.L n=none:=fun n hn=>by
  have:=m2.blks n
  unfold blkOf at this
  by_cases c:firstName≤n
  ·rw [if_pos c,List.getElem?_eq_none (hn c)] at this; exact this
  ·rw [if_neg c] at this; exact this
 have h3nb:∀ j,j<B'.length→h3.L (nameBack ks d j)=h2.L (firstName+j):=fun j hj=>by
  by_cases c:j<ks.length
  ·have hk:ks[j]?=some ks[j]:=List.getElem?_eq_getElem c
   obtain ⟨_,_,l,hl⟩:=hks j _ hk
   rw [nb_old j _ hk,h2keep j _ hk,h3old _ (by rw [hl]; simp)]
  ·obtain ⟨q,rfl⟩:∃ q,j=ks.length+q:=⟨j - ks.length,by omega⟩
   rw [nb_new,h3new q (by omega),Nat.add_assoc]
 have renb:Ren h2 h3 (backR ks d):=⟨fun _ _ _ e=>e,fun n k loc hk hl=>by
  unfold backR at hk
  split at hk <;> simp only [Option.some.injEq,reduceCtorEq] at hk
  rename_i c
  subst hk
  by_cases cB:n - firstName<B'.length
  ·rw [h3nb _ cB,show firstName+(n - firstName)=n from by omega]; exact hl
  ·rw [h2free n (fun _=>by omega)] at hl; cases hl⟩
 have rres:RepA h3 v (callRes ks d y):=cvA_rep (h:=h2) (w:=w') (l:=[]) (fun n hn=>by simp [Blk.live] at hn) renb (fun k hk=>by cases hk) y v (fun k hk=>by
  obtain ⟨_,e,s,xs,f,hb⟩:=cvA_arr y k hk
  cases hb) ry
 have hinj:∀ i j,i<B'.length→j<B'.length→nameBack ks d i=nameBack ks d j→i=j:=by
  have old_new:∀ i q,i<ks.length→q<B'.length - ks.length→nameBack ks d i ≠ newName d q:=fun i q hi hq e=>by
   have hk:ks[i]?=some ks[i]:=List.getElem?_eq_getElem hi
   obtain ⟨_,_,l,hl⟩:=hks i _ hk
   rw [nb_old i _ hk] at e
   rw [e,hfree q hq] at hl; cases hl
  intro i j hi hj e
  by_cases ci:i<ks.length <;> by_cases cj:j<ks.length
  ·have hi':ks[i]?=some ks[i]:=List.getElem?_eq_getElem ci
   have hj':ks[j]?=some ks[j]:=List.getElem?_eq_getElem cj
   rw [nb_old i _ hi',nb_old j _ hj'] at e
   have a:=fwdR_get ok.nodup hi'
   rw [e,fwdR_get ok.nodup hj'] at a
   simp only [Option.some.injEq] at a
   omega
  ·obtain ⟨q,rfl⟩:∃ q,j=ks.length+q:=⟨j - ks.length,by omega⟩
   rw [nb_new] at e
   exact absurd e (old_new i q ci (by omega))
  ·obtain ⟨q,rfl⟩:∃ q,i=ks.length+q:=⟨i - ks.length,by omega⟩
   rw [nb_new] at e
   exact absurd e.symm (old_new j q cj (by omega))
  ·obtain ⟨q,rfl⟩:∃ q,i=ks.length+q:=⟨i - ks.length,by omega⟩
   obtain ⟨q',rfl⟩:∃ q,j=ks.length+q:=⟨j - ks.length,by omega⟩
   rw [nb_new,nb_new,hnew,hnew] at e
   omega
 have hat:∀ j,j<B'.length→upds bl (frzW bl (callFrz ks blr args)++callOut ks d B') (nameBack ks d j)=(cvB (backR ks d) (fun _=>.dead) true (B'.getD j .dead)).1:=fun j hj=>by
  rw [upds_append]; exact upds_range_at hinj hj
 have hother:∀ n,(∀ j,j<B'.length→nameBack ks d j ≠ n)→upds bl (frzW bl (callFrz ks blr args)++callOut ks d B') n=upds bl (frzW bl (callFrz ks blr args)) n:=fun n hn=>by
  rw [upds_append]; exact upds_range_ne hn
 have hBat:∀ j,j<B'.length→blkOf B' (firstName+j)=B'.getD j .dead:=fun j hj=>by
  unfold blkOf
  rw [if_pos (Nat.le_add_right _ _),Nat.add_sub_cancel_left,List.getElem?_eq_getElem hj,List.getD_eq_getElem?_getD,List.getElem?_eq_getElem hj]; rfl
 have hold_other:∀ n l,(∀ j,j<B'.length→nameBack ks d j ≠ n)→(bl n).live=true→h.L n=some l→l.nul=false→l.blk<w.heap.size∧l.blk ∉ baseOf hc ((callBlks ks blr).map (·.1)):=by
  intro n l hn hl hL hnul
  obtain ⟨cs,ety,hh⟩:=live_heap (m.blks n) hl hL hnul
  refine ⟨heap_lt hh,fun hmem=>?_⟩
  obtain ⟨j,l',hj,hl',hn',hb'⟩:=mem_baseOf.1 hmem
  rw [hBlen] at hj
  have hk:ks[j]?=some ks[j]:=List.getElem?_eq_getElem hj
  rw [hcN j _ hk] at hl'
  have hne:ks[j] ≠ n:=fun e=>hn j (by have:=ok.len; omega) (by rw [nb_old j _ hk,e])
  exact m.apart ks[j] n l' l hne (hks j _ hk).1 hl hl' hL hn' hnul hb'
 have view:∀ n,(∃ j,j<B'.length∧nameBack ks d j=n)∨(∀ j,j<B'.length→nameBack ks d j ≠ n):=fun n=>by
  by_cases c:∃ j,j<B'.length∧nameBack ks d j=n
  ·exact .inl c
  ·exact .inr fun j hj e=>c ⟨j,hj,e⟩
 have h3other:∀ n,(∀ j,j<B'.length→nameBack ks d j ≠ n)→h3.L n=h.L n:=fun n hn=>by
  simp only [h3]
  rw [if_neg,held.L]
  rintro ⟨c1,c2⟩
  have hq:=hn (ks.length+(n - n0)) (by omega)
  rw [nb_new,hnew] at hq; omega
 refine ⟨v,h3,rfl,hle,?_,rres⟩
 have base_own:∀ b,b∈baseOf hc ((callBlks ks blr).map (·.1))→C.w0.heap.size≤b∨b∈C.base:=fun b hb=>by
  obtain ⟨j,l',hj,hl',hn',rfl⟩:=mem_baseOf.1 hb
  rw [hBlen] at hj
  have hk:ks[j]?=some ks[j]:=List.getElem?_eq_getElem hj
  rw [hcN j _ hk] at hl'
  exact m.own _ l' (hks j _ hk).1 hl' hn'
 refine ⟨fun n=>?_,m2.con,fun g cs hg=>m2.glob g cs (by show E.G g=_; rw [← hG]; exact hg),?_,?_,Nat.le_trans m.size m2.size,?_,fun b o u e=>hle.μ b o u (m.mext b o u e),?_,?_,m2.os.trans m.os,m2.tape.trans m.tape,m2.output.trans m.output,m.know⟩
 ·rcases view n with ⟨j,hj,rfl⟩ | hn
  ·rw [hat j hj]
   have hb2:=m2.blks (firstName+j)
   rw [hBat j hj] at hb2
   have hbr:backR ks d (firstName+j)=some (nameBack ks d j):=by
    unfold backR
    rw [if_pos (Nat.le_add_right _ _),Nat.add_sub_cancel_left]
   cases hlv:(B'.getD j .dead).live with
   | true=>exact cvB_rep (h:=h2) (h':=h3) (w:=w') (l:=[]) (fun n hn=>by simp [Blk.live] at hn) renb (fun k hk=>by cases hk) hbr hlv hb2 (fun k hk=>by
     obtain ⟨_,e,s,xs,f,hb⟩:=cvB_arr hk
     cases hb) (fun _ _ _=>rfl) (fun _ _ _ _ _ e=>e)
   | false =>
     cases hb:B'.getD j .dead with
     | var _=>rw [hb] at hlv; simp [Blk.live] at hlv
     | arr _ _ _ _=>rw [hb] at hlv; simp [Blk.live] at hlv
     | iter _ _=>rw [hb] at hlv; simp [Blk.live] at hlv
     | varr _ _ _=>rw [hb] at hlv; simp [Blk.live] at hlv
     | mp _=>rw [hb] at hlv; simp [Blk.live] at hlv
     | dead =>
       rw [hb] at hb2
       obtain ⟨l,hl⟩:=hb2
       exact ⟨l,by rw [h3nb j hj]; exact hl⟩
     | free =>
       rw [hb] at hb2
       show h3.L _=none
       rw [h3nb j hj]; exact hb2
  ·rw [hother n hn]
   refine RepB_keep (m1.blks n) ⟨fun b o u e=>m2.mext b o u e,fun k l e=>?_⟩ (fun e=>by rw [h3other n hn,← held.L]; exact e) (fun l a1 a2 a3=>?_) (fun l a1 a2 a3 o u a4=>?_)
   ·rw [held.L] at e
    rw [h3old k (by rw [e]; simp)]; exact e
   ·rw [hlive1] at a1
    rw [held.L] at a2
    obtain ⟨b1,b2⟩:=hold_other n l hn a1 a2 a3
    exact m2.frame l.blk b1 b2
   ·rw [hlive1] at a1
    rw [held.L] at a2
    obtain ⟨b1,b2⟩:=hold_other n l hn a1 a2 a3
    exact m2.mold l.blk b1 b2 o u a4
 ·intro i j l l' hij a1 a2 a3 a4 a5 a6
  have old_vs_new:∀ i l,(∀ q,q<B'.length→nameBack ks d q ≠ i)→(upds bl (frzW bl (callFrz ks blr args)++callOut ks d B') i).live=true→h3.L i=some l→l.nul=false →
    ∀ q l',q<B'.length→(blkOf B' (firstName+q)).live=true→h2.L (firstName+q)=some l'→l'.nul=false→l.blk ≠ l'.blk:=by
   intro i l hi b1 b2 b3 q l' hq b4 b5 b6 e
   rw [hother i hi,hlive1] at b1
   rw [h3other i hi] at b2
   obtain ⟨c1,c2⟩:=hold_other i l hi b1 b2 b3
   rcases m2.own _ l' b4 b5 b6 with c | c
   ·have:w.heap.size≤l'.blk:=c
    omega
   ·rw [← e] at c; exact c2 c
  have lv:∀ q,q<B'.length→(upds bl (frzW bl (callFrz ks blr args)++callOut ks d B') (nameBack ks d q)).live=true→(blkOf B' (firstName+q)).live=true:=fun q hq e=>by
   rw [hat q hq,livecv] at e; rw [hBat q hq]; exact e
  rcases view i with ⟨q,hq,rfl⟩ | hi <;> rcases view j with ⟨q',hq',rfl⟩ | hj
  ·rw [h3nb q hq] at a3
   rw [h3nb q' hq'] at a4
   exact m2.apart _ _ l l' (fun e=>hij (by have:q=q':=by omega
                                           rw [this])) (lv q hq a1) (lv q' hq' a2) a3 a4 a5 a6
  ·rw [h3nb q hq] at a3
   exact (old_vs_new j l' hj a2 a4 a6 q l hq (lv q hq a1) a3 a5).symm
  ·rw [h3nb q' hq'] at a4
   exact old_vs_new i l hi a1 a3 a5 q' l' hq' (lv q' hq' a2) a4 a6
  ·rw [hother i hi,hlive1] at a1
   rw [hother j hj,hlive1] at a2
   rw [h3other i hi] at a3
   rw [h3other j hj] at a4
   exact m.apart i j l l' hij a1 a2 a3 a4 a5 a6
 ·intro i l a1 a2 a3
  rcases view i with ⟨q,hq,rfl⟩ | hi
  ·rw [hat q hq,livecv] at a1
   rw [h3nb q hq] at a2
   rcases m2.own _ l (by rw [hBat q hq]; exact a1) a2 a3 with c | c
   ·exact .inl (Nat.le_trans m.size c)
   ·exact base_own _ c
  ·rw [hother i hi,hlive1] at a1
   rw [h3other i hi] at a2
   exact m.own i l a1 a2 a3
 ·intro b hb1 hb2
  have hb3:b ∉ baseOf hc ((callBlks ks blr).map (·.1)):=fun e=>by
   rcases base_own b e with c | c
   ·omega
   ·exact hb2 c
  exact (m2.frame b (by have:=m.size; show b<w.heap.size; omega) hb3).trans (m.frame b hb1 hb2)
 ·intro b hb1 hb2 o u hu
  have hb3:b ∉ baseOf hc ((callBlks ks blr).map (·.1)):=fun e=>by
   rcases base_own b e with c | c
   ·omega
   ·exact hb2 c
  exact m1.mold b hb1 hb2 o u (m2.mold b (by have:=m.size; show b<w.heap.size; omega) hb3 o u hu)
 ·intro n l hn hl
  rw [h3high n hn]
  exact m.lkeep n l hn hl
def updO (s:Nat→AV):Option Tmp→AV→Nat→AV
 | some d,v=>upd s d v
 | none,_=>s
def St.put (st:St) (dst:Option Tmp) (v:AV) (wr:List (Nat×Blk)):St:={ s:=updO st.s dst v,b:=upds st.b wr }
structure Inv (C:Ctx) (N nb:Nat) (st:St) (a:Act) (w:World):Prop where
 high:∀ n l,firstName≤n→C.h0.L n=some l→n<firstName+nb
 defers:a.defers=C.dfr
 size:a.tmps.size=N
 ex:∃ h,(∀ i,RepA h (a.tmps.getD i undef) (st.s i))∧Mem C st.b w h
theorem eval_rep {C:Ctx} {bl:Nat→Blk} {w:World} {h:Gh} (m:Mem C bl w h) {a:Act} {s:Nat→AV} (hs:∀ i,RepA h (a.tmps.getD i undef) (s i)) (x:Operand):RepA h (a.eval x) (evG C.G s x):=by
 cases x with
 | tmp t=>exact hs t
 | const v=>exact constAV_rep v
 | global g =>
   simp only [evG,Act.eval]
   split
   ·rename_i cs hg
    simp only [RepA]
    exact ⟨g,0,rfl,m.glob g cs hg⟩
   ·simp [RepA]
 | func f =>
   simp only [evG,Act.eval,RepA]
   exact ⟨[],rfl,by simp [RepAs]⟩
theorem put_slots {h:Gh} {a:Act} {s:Nat→AV} {dst:Option Tmp} {u:Value} {v:AV} (hs:∀ i,RepA h (a.tmps.getD i undef) (s i)) (hd:∀ d,dst=some d→d<a.tmps.size) (hu:RepA h u v) :
  ∀ i,RepA h ((a.put dst u).tmps.getD i undef) (updO s dst v i):=by
 intro i
 cases dst with
 | none=>exact hs i
 | some d =>
   have hlt:=hd d rfl
   simp only [Act.put,updO,upd]
   by_cases e:i=d
   ·subst e
    simpa [hlt] using hu
   ·rw [if_neg e]
    have:=hs i
    simpa [Array.getElem?_setIfInBounds_ne (Ne.symm e)] using this
theorem put_size {a:Act} {dst:Option Tmp} {u:Value}:(a.put dst u).tmps.size=a.tmps.size:=by
 cases dst <;> simp [Act.put]
theorem put_defers {a:Act} {dst:Option Tmp} {u:Value}:(a.put dst u).defers=a.defers:=by
 cases dst <;> rfl
def CallEff (E:Env) (ρ:Operand→AV) (o:Oper) (bl:Nat→Blk) (res:AV) (wr:List (Nat×Blk)):Prop :=
 ∃ c fo f xs ks d y B',o.op=.call c∧c.callee=.value fo∧callOf (ρ fo) (c.args.toList.map ρ)=some (f,xs)∧(o.dst=some d∨B'.length=ks.length) ∧
   CallOk E f xs bl ks d y B'∧res=callRes ks d y∧wr=frzW bl (callFrz ks bl xs)++callOut ks d B'
def Eff1 (E:Env) (ρ:Operand→AV) (o:Oper) (bl:Nat→Blk) (res:AV) (wr:List (Nat×Blk)):Prop :=
 effF E.P ρ o bl=some (res,wr)∨CallEff E ρ o bl res wr
theorem run_enter {P:Program} {f:FuncId} (he:enterable P f=true) (args:Array Value) (w:World):(callFunc f args).run P w=.ok (.enter f args) w:=by
 unfold enterable at he
 split at he
 ·rename_i fn hf
  simp only [Bool.and_eq_true,bne_iff_ne,ne_eq] at he
  have hb:fn.body.isNone=false:=by cases e:fn.body <;> simp_all
  simp only [callFunc,Sem.run_bind,run_program,Result.andThen_ok,hf]
  rw [if_neg (by simpa using he.1),if_neg (by simp [hb])]
  rfl
 ·cases he
def wantedA (ops:Array Oper) (o:Oper) (s:Nat→AV):Option Bool :=
 match o.guard with
 | none=>some true
 | some (j,want)=>match (ops[j]?).bind (·.dst) with
   | some t=>match s t with
     | .d (.bool b)=>some (b==want)
     | .sk=>some false
     | _=>none
   | none=>some false
theorem wantedA_sound {h:Gh} {ops:Array Oper} {o:Oper} {a:Act} {s:Nat→AV} {b:Bool} (hs:∀ i,RepA h (a.tmps.getD i undef) (s i)) (hw:wantedA ops o s=some b):Region.wanted o (yielded ops a.tmps)=b:=by
 unfold wantedA at hw
 unfold Region.wanted
 split at hw
 ·rename_i hg
  simp only [Option.some.injEq] at hw
  simp [hg,hw]
 ·rename_i j want hg
  simp only [hg]
  unfold yielded
  split at hw
  ·rename_i t ht
   have hst:=hs t
   split at hw
   ·rename_i b' hb
    simp only [Option.some.injEq] at hw
    subst hw
    rw [hb] at hst
    simp only [RepA,RepD] at hst
    have hv:a.tmps[t]?=some (.bool b'):=by
     cases e:a.tmps[t]? with
     | none=>simp [e,undef] at hst
     | some v=>simp [e] at hst; rw [hst]
    simp only [ht,Option.bind_some,hv]
    cases b' <;> cases want <;> rfl
   ·rename_i hb
    simp only [Option.some.injEq] at hw
    subst hw
    rw [hb] at hst
    simp only [RepA] at hst
    simp only [ht,Option.bind_some]
    cases e:a.tmps[t]? with
    | none=>rfl
    | some v=>simp [e,undef] at hst; subst hst; rfl
   ·cases hw
  ·rename_i ht
   simp only [Option.some.injEq] at hw
   subst hw
   simp [ht]
def Step (E:Env) (ops:Array Oper) (o:Oper) (st st':St) (t wn:List Nat):Prop :=
 (wantedA ops o st.s=some true∧∃ res wr,Eff1 E (evG E.G st.s) o (restr t st.b) res wr∧(∀ p∈wr,p.1∈t)∧wn=wr.map (·.1)∧st'=st.put o.dst res wr) ∨
 (wantedA ops o st.s=some false∧t=[]∧wn=[]∧st'=st.put o.dst .sk [])
theorem upds_not {α:Type} {f:Nat→α} {l:List (Nat×α)} {n:Nat} (h:∀ p∈l,p.1 ≠ n):upds f l n=f n:=by
 induction l generalizing f with
 | nil=>rfl
 | cons p l ih =>
   rw [show upds f (p::l)=upds (upd f p.1 p.2) l from rfl,ih fun q hq=>h q (List.mem_cons_of_mem _ hq)]
   simp [upd,Ne.symm (h p List.mem_cons_self)]
theorem step_sound {E:Env} {C:Ctx} (hP:C.P=E.P) (hG:C.G=E.G) {N nb:Nat} (hN:N≤firstName) {ops:Array Oper} {i:Nat} {o:Oper} (hi:ops[i]?=some o) (hd:∀ d,o.dst=some d→d<N) {st st':St} {t wn:List Nat} {a:Act} {w:World}
  (inv:Inv C N nb st a w) (hs:Step E ops o st st' t wn) {K:Act→World→Prop} {Q:Exit→Act→World→Prop} (hK:∀ a' w',Inv C N nb st' a' w'→K a' w'):wpOp E.P ops Q i K a w:=by
 obtain ⟨hhi,hdef,hsz,h,hsl,m⟩:=inv
 have hd':∀ d,o.dst=some d→d<a.tmps.size:=fun d e=>by rw [hsz]; exact hd d e
 have hdf:∀ d,o.dst=some d→d<firstName:=fun d e=>Nat.lt_of_lt_of_le (hd d e) hN
 unfold wpOp
 simp only [hi]
 rcases hs with ⟨hw,res,wr,heff,hwr,rfl,rfl⟩ | ⟨hw,rfl,rfl,rfl⟩
 ·rw [wantedA_sound hsl hw]
  simp only [if_true]
  left
  have hρ:∀ x,RepA h (a.eval x) (evG E.G st.s x):=fun x=>by rw [← hG]; exact eval_rep m hsl x
  rcases heff with he | ⟨c,fo,f,xs,ks,d,y,B',hop,hcal,hfo,hdst,ok,rfl,rfl⟩
  ·rw [← hP] at he ⊢
   obtain ⟨nx,u,w',h',hrun,hnx,le,m',ru⟩:=effF_sound (ev:=a.eval) m hρ hdf hwr he
   unfold Oper.wp
   rw [hrun]
   have inv':Inv C N nb (st.put o.dst res wr) (a.put o.dst u) w':=⟨hhi,by rw [put_defers]; exact hdef,by rw [put_size]; exact hsz,h',put_slots (fun i=>RepA_mono le _ _ (hsl i)) hd' ru,m'⟩
   rcases hnx with rfl | ⟨rfl,rfl⟩
   ·exact hK _ _ inv'
   ·exact hK _ _ inv'
  ·-- a call
   have hfv:=hρ fo
   obtain ⟨vs,fst,carr,hfv,hra,rfl⟩:∃ (vs fst carr:List Value),a.eval fo=.func (.func f) ⟨fst⟩ ⟨carr⟩∧RepAs h vs xs∧vs=fst++c.args.toList.map a.eval++carr:=by
    cases hv:evG E.G st.s fo <;> rw [hv] at hfo hfv <;> simp only [callOf,Option.some.injEq,Prod.mk.injEq,reduceCtorEq] at hfo
    ·obtain ⟨rfl,rfl⟩:=hfo
     simp only [RepA] at hfv
     obtain ⟨carr,hfv,hcr⟩:=hfv
     exact ⟨_,[],carr,hfv,RepAs_append (RepAs_map hρ _) hcr,rfl⟩
    ·obtain ⟨rfl,rfl⟩:=hfo
     simp only [RepA] at hfv
     obtain ⟨carr,hfv,hcr⟩:=hfv
     exact ⟨_,carr,[],hfv,RepAs_append hcr (RepAs_map hρ _),by simp⟩
   have hrun:(execOp a.eval o).run E.P w=.ok (.enter f ⟨fst++c.args.toList.map a.eval++carr⟩) w:=by
    have he:=run_enter (Exists.elim ok.cf fun _ h=>h.1) (⟨fst++c.args.toList.map a.eval++carr⟩:Array Value) w
    rw [← he]
    obtain ⟨dst,op,type,pos,after,guard⟩:=o
    simp only at hop
    subst hop
    obtain ⟨callee,args,argTypes⟩:=c
    simp only at hcal
    subst hcal
    simp only [execOp,resolve,hfv,Deferred.ofValue,Sem.run_bind,Sem.run_pure,Result.andThen_ok,invoke]
    congr 2
    apply Array.ext'
    simp
   have hcall:=call_sound hP hG (blr:=restr t st.b) (fun n hn=>(restr_eq (t:=t) (bl:=st.b) rfl hn).symm) m hra ok
   unfold Oper.wp
   rw [hrun]
   simp only [Oper.upon]
   rw [← hP]
   refine hcall.mono fun e w'=>?_
   rintro ⟨v,h',rfl,le,m',rv⟩
   exact hK _ _ ⟨hhi,by rw [put_defers]; exact hdef,by rw [put_size]; exact hsz,h',put_slots (fun i=>RepA_mono le _ _ (hsl i)) hd' rv,m'⟩
 ·rw [wantedA_sound hsl hw]
  simp only [Bool.false_eq_true,if_false]
  exact hK _ _ ⟨hhi,by rw [put_defers]; exact hdef,by rw [put_size]; exact hsz,h,put_slots hsl hd' (by simp [RepA]),m⟩
end Go.Ab
