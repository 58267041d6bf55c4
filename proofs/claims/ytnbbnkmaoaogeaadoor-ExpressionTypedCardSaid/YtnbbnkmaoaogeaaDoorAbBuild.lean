/- Literals: structs, arrays, slices; what is stored; slices that are made. -/
import Derived.Test.YtnbbnkmaoaogeaaDoorAbPure
import Derived.Great.BuildSlice
set_option linter.all false
namespace Go.Ab

theorem foldl_splice (off : Nat) (l : List Value) (cs : Array Value) (hle : off + l.length ≤ cs.size) :
    (l.zipIdx.foldl (fun cs (x : Value × Nat) => cs.setIfInBounds (off + x.2) x.1) cs) = ⟨splice cs.toList off l⟩ := by
  obtain ⟨h1, h2⟩ := Great.foldl_set off l 0 cs
  apply Array.ext_getElem?
  intro k
  rw [h2 k]
  simp only [Nat.add_zero]
  simp only [List.getElem?_toArray, splice, List.append_assoc]
  rw [List.getElem?_append, List.getElem?_append]
  simp only [List.length_take, Array.length_toList]
  have hm : min off cs.size = off := by omega
  rw [hm]
  by_cases c1 : k < off
  · rw [if_neg (by omega), if_pos c1, List.getElem?_take, if_pos c1]; simp
  · rw [if_neg c1]
    by_cases c2 : k < off + l.length
    · rw [if_pos (by omega), if_pos (by omega)]
    · rw [if_neg (by omega), if_neg (by omega), List.getElem?_drop]
      simp only [Array.getElem?_toList]
      congr 1; omega

theorem fill_sound {h : Gh} {place : Nat → Option (Nat × Nat)} : ∀ (parts : List (Nat × AV)) (vs : List (Nat × Value)) (cs : List AV) (cells : Array Value) (r : List AV),
    parts.map (·.1) = vs.map (·.1) → RepAs h (vs.map (·.2)) (parts.map (·.2)) → RepAs h cells.toList cs → fillE place cs parts = some r →
    ∃ q, Instr.fill place cells vs = some q ∧ RepAs h q.toList r
  | [], vs, cs, cells, r, hk, _, hc, he => by
    cases vs with
    | nil => simp only [fillE, Option.some.injEq] at he; subst he; exact ⟨cells, rfl, hc⟩
    | cons v vs => simp at hk
  | (i, p) :: parts, vs, cs, cells, r, hk, hr, hc, he => by
    cases vs with
    | nil => simp at hk
    | cons v vs =>
      obtain ⟨i', v⟩ := v
      simp only [List.map_cons, List.cons.injEq] at hk
      obtain ⟨rfl, hk⟩ := hk
      simp only [List.map_cons, RepAs, List.cons.injEq] at hr
      obtain ⟨u, us, ⟨rfl, rfl⟩, hr1, hr2⟩ := hr
      simp only [fillE] at he
      split at he
      · cases he
      · rename_i off size hpl
        split at he
        · rename_i hcond
          obtain ⟨hg, hl, hle⟩ := hcond
          have hcells := RepA_cells hr1 hg
          have hlen := (RepAs_iff.1 hcells).1
          have hclen := (RepAs_iff.1 hc).1
          have hsz : v.cells.size = size := by have : v.cells.toList.length = v.cells.size := by simp
                                               omega
          have hcs : cells.size = cs.length := by simpa using hclen
          have hsp : RepAs h (splice cells.toList off v.cells.toList) (splice cs off p.cells) := by
            unfold splice
            rw [show off + v.cells.toList.length = off + p.cells.length from by omega]
            exact RepAs_append (RepAs_append (RepAs_take hc) hcells) (RepAs_drop hc)
          obtain ⟨q, hq, hqr⟩ := fill_sound (place := place) parts vs _ ⟨splice cells.toList off v.cells.toList⟩ r hk hr2 hsp he
          refine ⟨q, ?_, hqr⟩
          unfold Instr.fill
          simp only [hpl]
          rw [if_neg (by simp [hsz]; omega)]
          rw [← hq]
          congr 1
          rw [← foldl_splice off v.cells.toList cells (by simp; omega), ← Array.foldl_toList, Array.toList_zipIdx]
        · cases he

theorem places_some {P : Program} : ∀ (fs : List Field), (fs.map (fieldEnt P)).all (fun f => f.2.1 != 0) = true →
    fs.mapM (fun f => (P.info? f.type).map fun i => (f.offset, i.size)) = some ((fs.map (fieldEnt P)).map fun f => (f.1, f.2.1))
  | [], _ => rfl
  | f :: fs, h => by
    simp only [List.map_cons, List.all_cons, Bool.and_eq_true] at h
    have ih := places_some fs h.2
    have h1 := h.1
    simp only [fieldEnt] at h1
    split at h1
    · rename_i i d e1 e2
      simp [ih, e1, e2, fieldEnt]
    · simp at h1

theorem buildE_sound {P : Program} {w : World} {h : Gh} {t : TypeId} {parts : List (Nat × AV)} {vs : List (Nat × Value)} {v : AV} {wr : List (Nat × Blk)}
    (hk : parts.map (·.1) = vs.map (·.1)) (hr : RepAs h (vs.map (·.2)) (parts.map (·.2))) (he : buildE P t parts = some (v, wr)) :
    wr = [] ∧ ∃ u, (Instr.build t vs.toArray).run P w = .ok u w ∧ RepA h u v := by
  unfold buildE at he
  split at he
  · rename_i ti hti
    obtain ⟨i, d, h1, h2, rfl⟩ := tinf_some hti
    split at he
    · rename_i l z hk' hz
      obtain ⟨fs, rfl, rfl⟩ := kind_struct hk'
      split at he
      · rename_i hall
        simp only [Option.map_eq_some_iff] at hz he
        obtain ⟨zv, hz1, rfl⟩ := hz
        obtain ⟨cs, hcs, he⟩ := he
        simp only [Prod.mk.injEq] at he
        obtain ⟨rfl, rfl⟩ := he
        obtain ⟨q, hq, hqr⟩ := fill_sound parts vs _ zv.cells cs hk hr (RepAs_const _) hcs
        refine ⟨rfl, .agg q, run_build w t _ q ?_, ?_⟩
        · have hp := places_some fs.toList hall
          simp only [Program.built, h1, h2, hz1, hp]
          rw [← hq]
          congr 1
          funext x
          simp [List.getElem?_map]
        · simp only [RepA]; exact ⟨q.toList, rfl, hqr⟩
      · cases he
    · rename_i n e z hk' hz
      have := kind_array hk'; subst this
      split at he
      · rename_i te hte
        obtain ⟨ie, de, e1, e2, rfl⟩ := tinf_some hte
        simp only [Option.map_eq_some_iff] at hz he
        obtain ⟨zv, hz1, rfl⟩ := hz
        obtain ⟨cs, hcs, he⟩ := he
        simp only [Prod.mk.injEq] at he
        obtain ⟨rfl, rfl⟩ := he
        obtain ⟨q, hq, hqr⟩ := fill_sound parts vs _ zv.cells cs hk hr (RepAs_const _) hcs
        refine ⟨rfl, .agg q, run_build w t _ q ?_, ?_⟩
        · simp only [Program.built, h1, h2, hz1, e1]
          exact hq
        · simp only [RepA]; exact ⟨q.toList, rfl, hqr⟩
      · cases he
    · cases he
  · cases he

/-! Data out of values: what must be held still. -/
theorem frz_step {C : Ctx} {bl : Nat → Blk} {w : World} {h : Gh} (m : Mem C bl w h) {n : Nat} (hn : ∃ e s xs f, bl n = .arr e s xs f) :
    ∃ h', h.le h' ∧ Mem C (upd bl n (bl n).frzd) w h' := by
  obtain ⟨e, s, xs, f, hb⟩ := hn
  obtain ⟨h', le, _, m', _⟩ := m.freeze hb
  refine ⟨h', le, ?_⟩
  rw [hb]; exact m'

theorem toD_sound {C : Ctx} {bl : Nat → Blk} {w : World} {h : Gh} (m : Mem C bl w h) {tl : List Nat} {c : AV} {x : D} {l : List Nat} {v : Value} (hr : RepA h v c) (ht : toD (restr tl bl) c = some (x, l)) :
    ∃ h', h.le h' ∧ Mem C (upds bl (frzW bl l)) w h' ∧ RepD h'.μ v x := by
  cases c <;> simp only [toD] at ht <;> first | (cases ht; done) | skip
  case d y =>
    simp only [Option.some.injEq, Prod.mk.injEq] at ht
    obtain ⟨rfl, rfl⟩ := ht
    exact ⟨h, .refl h, m, by simpa [RepA] using hr⟩
  case nils =>
    simp only [Option.some.injEq, Prod.mk.injEq] at ht
    obtain ⟨rfl, rfl⟩ := ht
    simp only [RepA] at hr
    subst hr
    exact ⟨h, .refl h, m, by simp [RepD]⟩
  case ref n lo len sz =>
    split at ht
    · rename_i e s xs f hbl
      have hbl' := restr_eq hbl (by simp)
      split at ht <;> simp only [Option.some.injEq, Prod.mk.injEq, reduceCtorEq] at ht
      rename_i hle
      obtain ⟨rfl, rfl⟩ := ht
      obtain ⟨h', le, hL, m', hels, _⟩ := m.freeze hbl'
      refine ⟨h', le, by simp only [frzW, List.map_cons, List.map_nil, upds, hbl', Blk.frzd]; exact m', ?_⟩
      simp only [RepA] at hr
      obtain ⟨l, hl, hsz, hx⟩ := hr
      have hb := m.blks n
      rw [hbl'] at hb
      obtain ⟨l', hl', hs, _, _⟩ := hb
      rw [hl] at hl'; cases hl'
      subst hs
      simp only [RepD]
      have hlen : ((xs.drop lo).take len).length = len := by simp; omega
      split at hx
      · obtain ⟨rfl, rfl, rfl⟩ := hx
        exact ⟨none, 0, by simp, by simp, .inl (by simp)⟩
      · rename_i hn
        obtain ⟨cap, rfl, hc, _, _⟩ := hx
        refine ⟨_, cap, by rw [hlen], by rw [hlen]; exact hc, .inr ⟨l.blk, lo * l.sz, l.sz, rfl, ?_⟩⟩
        have := hels l hl (by simpa using hn)
        rw [RepEls_iff] at this ⊢
        intro i y hi
        rw [List.getElem?_take] at hi
        split at hi
        · rw [List.getElem?_drop] at hi
          have := this _ y hi
          rwa [Nat.zero_add, Nat.add_mul] at this
        · cases hi
    · cases ht

theorem frzd_frzd (b : Blk) : b.frzd.frzd = b.frzd := by cases b <;> rfl
theorem upds_append {α : Type} (f : Nat → α) (l l' : List (Nat × α)) : upds f (l ++ l') = upds (upds f l) l' := by
  induction l generalizing f with
  | nil => rfl
  | cons p l ih => exact ih _
/-- After some blocks are held still the others are held as they were: reading the list of writes off the first state serves. -/
theorem upds_frz (bl : Nat → Blk) (l : List Nat) (n : Nat) : upds bl (frzW bl l) n = if n ∈ l then (bl n).frzd else bl n := by
  have key : ∀ (l : List Nat) (g : Nat → Blk), (∀ k, g k = bl k ∨ g k = (bl k).frzd) → upds g (frzW bl l) n = if n ∈ l then (bl n).frzd else g n := by
    intro l
    induction l with
    | nil => intro g _; simp [frzW, upds]
    | cons k l ih =>
      intro g hg
      have := ih (upd g k (bl k).frzd) (fun j => by
        by_cases e : j = k
        · subst e; right; simp [upd]
        · simpa [upd, e] using hg j)
      show upds (upd g k (bl k).frzd) (frzW bl l) n = _
      rw [this]
      by_cases e : n ∈ l
      · simp [e]
      · by_cases e' : n = k
        · subst e'; simp [e, upd]
        · simp [e, e', upd]
  simpa using key l bl fun k => .inl rfl
theorem upds_frz_twice (bl : Nat → Blk) (l l' : List Nat) : upds (upds bl (frzW bl l)) (frzW (upds bl (frzW bl l)) l') = upds bl (frzW bl (l ++ l')) := by
  funext n
  rw [upds_frz, upds_frz, upds_frz]
  by_cases a : n ∈ l <;> by_cases b : n ∈ l' <;> simp [a, b, frzd_frzd]

theorem frzW_restr {tl : List Nat} {bl : Nat → Blk} {l : List Nat} (h : ∀ n ∈ l, n ∈ tl) : frzW (restr tl bl) l = frzW bl l := by
  unfold frzW
  apply List.map_congr_left
  intro n hn
  simp [restr, h n hn]

theorem toDs_sound {C : Ctx} {bl : Nat → Blk} {w : World} : ∀ {cs : List AV} {tl : List Nat} {ds : List D} {l : List Nat} {vs : List Value} {h : Gh} (pre : List Nat), Mem C (upds bl (frzW bl pre)) w h → RepAs h vs cs →
    toDs (restr tl bl) cs = some (ds, l) → ∃ h', h.le h' ∧ Mem C (upds bl (frzW bl (pre ++ l))) w h' ∧ vs.length = ds.length ∧ ∀ (j : Nat) (x : D), ds[j]? = some x → ∃ v : Value, vs[j]? = some v ∧ RepD h'.μ v x
  | [], tl, ds, l, vs, h, pre, m, hr, ht => by
    simp only [toDs, Option.some.injEq, Prod.mk.injEq] at ht
    obtain ⟨rfl, rfl⟩ := ht
    simp only [RepAs] at hr
    subst hr
    exact ⟨h, .refl h, by simpa using m, rfl, fun j x hj => by simp at hj⟩
  | c :: cs, tl, ds, l, vs, h, pre, m, hr, ht => by
    simp only [toDs] at ht
    split at ht <;> simp only [Option.some.injEq, Prod.mk.injEq, reduceCtorEq] at ht
    rename_i x l1 xs l2 h1 h2
    obtain ⟨rfl, rfl⟩ := ht
    simp only [RepAs] at hr
    obtain ⟨u, us, rfl, hu, hus⟩ := hr
    have h1' : toD (restr tl (upds bl (frzW bl pre))) c = some (x, l1) := by
      cases c <;> simp only [toD] at h1 ⊢ <;> first | (cases h1; done) | exact h1 | skip
      rename_i n lo len sz
      have e : restr tl (upds bl (frzW bl pre)) n = restr tl bl n ∨ restr tl (upds bl (frzW bl pre)) n = (restr tl bl n).frzd := by
        unfold restr
        split
        · rw [upds_frz]; split
          · exact .inr rfl
          · exact .inl rfl
        · exact .inl rfl
      rcases e with e | e
      · rw [e]; exact h1
      · rw [e]
        split at h1
        · rename_i hb; rw [hb]; exact h1
        · cases h1
    obtain ⟨ha, lea, ma, ra⟩ := toD_sound m hu h1'
    rw [upds_frz_twice] at ma
    obtain ⟨hb, leb, mb, hlen, hg⟩ := toDs_sound (cs := cs) (pre ++ l1) ma (RepAs_mono lea cs us hus) h2
    refine ⟨hb, lea.trans leb, by rw [← List.append_assoc]; exact mb, by simp [hlen], fun j y hj => ?_⟩
    cases j with
    | zero => simp at hj; subst hj; exact ⟨u, rfl, RepD_mono leb.μ _ _ ra⟩
    | succ j => simpa using hg j y (by simpa using hj)

/-! A block of data is made. -/
theorem newArr_sound {C : Ctx} {bl : Nat → Blk} {w : World} {h : Gh} (m : Mem C bl w h) {n : Nat} (hn : n < firstName) (hfree : bl n = .free) {ety sz : Nat} (hsz : 0 < sz) {cs : Array Value} {xs : List (List D)} {cap len : Nat} (frz : Bool)
    (hcap : cs.size = cap * sz) (hlen : xs.length ≤ cap) (hmax : cap ≤ maxLen) (hl : len = xs.length)
    (hx : ∀ (i : Nat) (x : List D), xs[i]? = some x → x.length = sz ∧ ∀ (j : Nat) (c : D), x[j]? = some c → ∃ v, cs[i * sz + j]? = some v ∧ RepD h.μ v c) :
    ∃ h', h.le h' ∧ Mem C (upd bl n (.arr ety sz xs frz)) (w.alloc (.cells cs ety)) h' ∧ RepA h' (.slice (some ⟨w.heap.size, 0, none⟩) len cap) (.ref n 0 len sz) := by
  have hL : h.L n = none := by have := m.blks n; rw [hfree] at this; exact this
  have hmu : ∀ o, h.μ w.heap.size o = none := fun o => by
    cases e : h.μ w.heap.size o with
    | none => rfl
    | some v => exact absurd (mu_lt m e) (by omega)
  refine ⟨_, Gh.le_add (l := ⟨w.heap.size, cs.size, sz, false⟩) hL, m.alloc hfree (.arr ety sz xs frz) cs ety sz ?_ hn, ?_⟩
  · refine ⟨⟨w.heap.size, cs.size, sz, false⟩, by simp [Gh.add], rfl, hsz, ?_⟩
    simp only [Bool.false_eq_true, if_false]
    exact ⟨cs, heap_alloc_new w _, rfl, by rw [hcap]; exact Nat.mul_le_mul_right _ hlen, hx, fun o v e => by simp only [Gh.add] at e; rw [hmu] at e; cases e⟩
  · simp only [RepA]
    refine ⟨⟨w.heap.size, cs.size, sz, false⟩, by simp [Gh.add], rfl, ?_⟩
    simp only [Bool.false_eq_true, if_false]
    exact ⟨cap, by simp, by omega, hmax, by simp [hcap]⟩

theorem chunks_get {α : Type} (sz : Nat) : ∀ (n : Nat) (l : List α) (i : Nat) (x : List α), (chunks sz n l)[i]? = some x → i < n ∧ x = (l.drop (i * sz)).take sz
  | 0, l, i, x, h => by simp [chunks] at h
  | n + 1, l, i, x, h => by
    cases i with
    | zero => simp only [chunks, List.getElem?_cons_zero, Option.some.injEq] at h; exact ⟨by omega, by simp [h]⟩
    | succ i =>
      simp only [chunks, List.getElem?_cons_succ] at h
      obtain ⟨a, b⟩ := chunks_get sz n _ i x h
      exact ⟨by omega, by rw [b, List.drop_drop, Nat.add_mul, Nat.one_mul, Nat.add_comm]⟩
theorem chunks_length {α : Type} (sz : Nat) : ∀ (n : Nat) (l : List α), (chunks sz n l).length = n
  | 0, _ => rfl
  | n + 1, l => by simp [chunks, chunks_length sz n]

theorem zipIdx_parts {α : Type} : ∀ (l : List (Nat × α)) (k : Nat), l.map (·.1) = List.range' k l.length → l = ((l.map (·.2)).zipIdx k).map fun x => (x.2, x.1)
  | [], _, _ => rfl
  | (i, v) :: l, k, h => by
    simp only [List.map_cons, List.length_cons, List.range'_succ, List.cons.injEq] at h
    obtain ⟨rfl, h⟩ := h
    simp only [List.map_cons, List.zipIdx_cons]
    rw [← zipIdx_parts l (i + 1) h]

theorem RepAs_flat {h : Gh} : ∀ {cs : List AV} {vs : List Value}, RepAs h vs cs → cs.all AV.good = true → RepAs h (vs.flatMap fun v => v.cells.toList) (cs.flatMap AV.cells)
  | [], vs, hr, _ => by simp only [RepAs] at hr; subst hr; simp [RepAs]
  | c :: cs, vs, hr, hg => by
    simp only [RepAs] at hr
    obtain ⟨u, us, rfl, h1, h2⟩ := hr
    simp only [List.all_cons, Bool.and_eq_true] at hg
    simp only [List.flatMap_cons]
    exact RepAs_append (RepA_cells h1 hg.1) (RepAs_flat h2 hg.2)

theorem buildSliceE_sound {C : Ctx} {bl : Nat → Blk} {w : World} {h : Gh} (m : Mem C bl w h) {dst : Option Tmp} (hdst : ∀ n, dst = some n → n < firstName) {tl : List Nat} {t : TypeId} {len : Nat}
    {parts : List (Nat × AV)} {vs : List (Nat × Value)} {v : AV} {wr : List (Nat × Blk)} (htl : ∀ p ∈ wr, p.1 ∈ tl)
    (hk : parts.map (·.1) = vs.map (·.1)) (hr : RepAs h (vs.map (·.2)) (parts.map (·.2))) (he : buildSliceE C.P dst t len (restr tl bl) parts = some (v, wr)) :
    Good C bl h wr v ((Instr.buildSlice t len vs.toArray).run C.P w) := by
  unfold buildSliceE at he
  split at he
  · rename_i sz0 by0 z0 e hti
    obtain ⟨i, d, h1, h2, h3⟩ := tinf_some hti
    have hd := kind_slice (P := C.P) (d := d) (by injection h3 with _ _ _ h4; exact h4.symm)
    subst hd
    split at he
    · rename_i te hte
      obtain ⟨ie, de, e1, e2, rfl⟩ := tinf_some hte
      split at he
      · rename_i hc
        obtain ⟨c1, c2, c3, c4, c5, c6⟩ := hc
        simp only at c3 c4 c5 c6 he
        obtain ⟨zl, hzl⟩ := Option.isSome_iff_exists.1 c5
        simp only [Option.map_eq_some_iff] at hzl
        obtain ⟨zv, hz1, _⟩ := hzl
        split at he
        · rename_i ds l n hds
          split at he
          · cases he
          · rename_i hnl
            split at he
            · rename_i hfree
              simp only [Option.some.injEq, Prod.mk.injEq] at he
              obtain ⟨rfl, rfl⟩ := he
              have hnfree : bl n = .free := restr_eq hfree (by simp)
              have hvl : vs.length = len := by
                have := congrArg List.length (hk.symm.trans c1); simpa using this
              -- the cells
              have hgood : (parts.map (·.2)).all AV.good = true := by simpa [List.all_map] using c2
              have hcl : ∀ p ∈ parts.map (·.2), p.cells.length = ie.size := by
                intro q hq
                obtain ⟨p, hp, hpe⟩ := List.mem_map.1 hq
                rw [List.all_eq_true] at c6
                have := c6 p hp
                rw [← hpe]; simpa using this
              have hsizes : ∀ u ∈ vs.map (·.2), u.cells.size = ie.size := by
                clear hds
                generalize parts.map (·.2) = ps at hr hgood hcl
                intro u hu
                obtain ⟨j, hj⟩ := List.mem_iff_getElem?.1 hu
                have hlen2 := (RepAs_iff.1 hr).1
                have hj' : j < ps.length := by have := (List.getElem?_eq_some_iff.1 hj).1; omega
                obtain ⟨u', hu', hr'⟩ := (RepAs_iff.1 hr).2 j _ (List.getElem?_eq_getElem hj')
                rw [hj] at hu'; cases hu'
                have hmem : ps[j] ∈ ps := List.getElem_mem hj'
                have hg' : (ps[j]).good = true := by rw [List.all_eq_true] at hgood; exact hgood _ hmem
                have := (RepAs_iff.1 (RepA_cells hr' hg')).1
                simpa [hcl _ hmem] using this
              have hvs : vs = ((vs.map (·.2)).zipIdx 0).map fun x => (x.2, x.1) := zipIdx_parts vs 0 (by rw [← hk, c1, List.range_eq_range', hvl])
              have hpos : ¬ len * ie.size = 0 ∨ len = 0 := by
                rcases Nat.eq_zero_or_pos len with e | e
                · exact .inr e
                · exact .inl (Nat.ne_of_gt (Nat.mul_pos e c3))
              have hfill : ∀ cells0 : Array Value, cells0.size = len * ie.size → Instr.fill (fun i => some (i * ie.size, ie.size)) cells0 vs = some ((vs.map (·.2)).flatMap fun v => v.cells.toList).toArray := fun cells0 h0 => by
                rw [hvs]
                have := Great.fill_whole c3 (vs.map (·.2)) cells0 hsizes (by simp [hvl, h0])
                rw [← hvs] at this ⊢
                exact this
              have hrun : (Instr.buildSlice t len vs.toArray).run C.P w = .ok (.slice (some ⟨w.heap.size, 0, none⟩) len len) (w.alloc (.cells ((vs.map (·.2)).flatMap fun v => v.cells.toList).toArray e)) := by
                rcases hpos with hp | rfl
                · exact run_buildSlice w t e len _ _ ie zv h2 e1 hz1 (by omega) hp (hfill _ (by simp))
                · have hvn : vs = [] := List.length_eq_zero_iff.1 hvl
                  subst hvn
                  simp [Instr.buildSlice, run_underlying h2, run_sizeOf e1, Instr.fill, newRow, Array.range_zero']
              rw [hrun]
              have hflat := RepAs_flat hr hgood
              have hds' : toDs (restr tl bl) ((parts.map (·.2)).flatMap AV.cells) = some (ds, l) := by rw [← hds]; congr 1; simp [List.flatMap_map]
              obtain ⟨h', le, m', hlen', hg'⟩ := toDs_sound (tl := tl) [] (by simpa [frzW, upds] using m) hflat hds'
              simp only [List.nil_append] at m'
              have hfree' : upds bl (frzW bl l) n = .free := by rw [upds_frz, if_neg hnl, hnfree]
              have hcells : ((vs.map (·.2)).flatMap fun v => v.cells.toList).length = len * ie.size := by
                have : ∀ (l : List Value), (∀ u ∈ l, u.cells.size = ie.size) → (l.flatMap fun v => v.cells.toList).length = l.length * ie.size := by
                  intro l
                  induction l with
                  | nil => intro _; simp
                  | cons u l ih => intro hl; simp only [List.flatMap_cons, List.length_append, List.length_cons, Array.length_toList, Nat.add_mul, Nat.one_mul]; rw [ih fun x hx => hl x (List.mem_cons_of_mem _ hx), hl u List.mem_cons_self]; omega
                rw [this _ hsizes]; simp [hvl]
              obtain ⟨h2', le2, m2, r2⟩ := newArr_sound (ety := e) m' (hdst n rfl) hfree' c3 (cs := ((vs.map (·.2)).flatMap fun v => v.cells.toList).toArray) (xs := chunks ie.size len ds) (cap := len) (len := len) false
                (by simpa using hcells) (by rw [chunks_length]; exact Nat.le_refl _) (by
                  have : len ≤ len * ie.size := Nat.le_mul_of_pos_right _ c3
                  simp only [maxLen]; omega) (by rw [chunks_length]) (fun i x hi => by
                  obtain ⟨a, rfl⟩ := chunks_get _ _ _ _ _ hi
                  have hrow : (i + 1) * ie.size ≤ len * ie.size := Nat.mul_le_mul_right _ a
                  rw [Nat.add_mul, Nat.one_mul] at hrow
                  have hdl : ds.length = len * ie.size := by rw [← hlen', hcells]
                  refine ⟨by simp; omega, fun j c hj => ?_⟩
                  rw [List.getElem?_take] at hj
                  split at hj
                  · rw [List.getElem?_drop] at hj
                    obtain ⟨u, hu, hru⟩ := hg' _ c hj
                    exact ⟨u, by simpa using hu, hru⟩
                  · cases hj)
              refine ⟨_, _, h2', rfl, le.trans le2, ?_, r2⟩
              rw [frzW_restr (fun k hk => htl (k, ((restr tl bl) k).frzd) (List.mem_append_left _ (List.mem_map.2 ⟨k, hk, rfl⟩))), upds_append]
              exact m2
            · cases he
        · cases he
      · cases he
    · cases he
  · cases he
end Go.Ab
