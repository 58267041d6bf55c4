/- Stores, slices that are made with a size, append. -/
import Derived.Test.YtnbbnkmaoaogeaaDoorAbBuild
set_option linter.all false
namespace Go.Ab

theorem splice_length {α : Type} {l : List α} {j : Nat} {vs : List α} (h : j + vs.length ≤ l.length) : (splice l j vs).length = l.length := by
  simp [splice]; omega
theorem splice_get {α : Type} {l : List α} {j : Nat} {vs : List α} (h : j + vs.length ≤ l.length) (k : Nat) :
    (splice l j vs)[k]? = if j ≤ k ∧ k < j + vs.length then vs[k - j]? else l[k]? := by
  unfold splice
  rw [List.append_assoc, List.getElem?_append, List.getElem?_append]
  simp only [List.length_take]
  have hm : min j l.length = j := by omega
  rw [hm]
  by_cases c1 : k < j
  · rw [if_pos c1, if_neg (by omega), List.getElem?_take, if_pos c1]
  · rw [if_neg c1]
    by_cases c2 : k < j + vs.length
    · rw [if_pos (by omega), if_pos (by omega)]
    · rw [if_neg (by omega), if_neg (by omega), List.getElem?_drop]
      congr 1; omega

theorem storeE_sound {C : Ctx} {bl : Nat → Blk} {w : World} {h : Gh} (m : Mem C bl w h) {tl : List Nat} {t : TypeId} {ti : TI} (hti : tinf C.P t = some ti) {p x v : AV} {wr : List (Nat × Blk)} {pv xv : Value}
    (hp : RepA h pv p) (hx : RepA h xv x) (he : storeE ti (restr tl bl) x p = some (v, wr)) :
    v = .sk ∧ ∃ w', (Instr.storeAt t pv xv).run C.P w = .ok () w' ∧ Mem C (upds bl wr) w' h := by
  obtain ⟨i0, d, h1, h2, rfl⟩ := tinf_some hti
  cases p <;> simp only [storeE] at he <;> first | (cases he; done) | skip
  case ptr n i j =>
    simp only [RepA] at hp
    obtain ⟨l, hL, hnul, rfl⟩ := hp
    split at he
    · rename_i hcond
      obtain ⟨hg, hcl, hcells⟩ := hcond
      have hrx := RepA_cells hx hg
      have hlen : xv.cells.toList.length = i0.size := by rw [(RepAs_iff.1 hrx).1, hcl]
      have hone : ∀ u ∈ xv.cells.toList, u.oneCell' = true := by
        intro u hu
        obtain ⟨k, hk⟩ := List.mem_iff_getElem?.1 hu
        have hk' : k < x.cells.length := by have := (List.getElem?_eq_some_iff.1 hk).1; rw [(RepAs_iff.1 hrx).1] at this; exact this
        obtain ⟨u', hu', hr'⟩ := (RepAs_iff.1 hrx).2 k _ (List.getElem?_eq_getElem hk')
        rw [hk] at hu'; cases hu'
        rw [List.all_eq_true] at hcells
        exact isCell_one hr' (hcells _ (List.getElem_mem hk'))
      have run : ∀ (cs : Array Value) (ety o : Nat), w.heap[l.blk]? = some (.cells cs ety (0, 0)) → o + i0.size ≤ cs.size →
          (Instr.storeAt t (.pointer (some ⟨l.blk, o, none⟩)) xv).run C.P w = .ok () (w.setRow l.blk ⟨splice cs.toList o xv.cells.toList⟩) := by
        intro cs ety o hh hle
        have hst := run_storeCells_at C.P l.blk o ety xv.cells.toList 0 cs w hh (by omega) hone
        simp only [Nat.add_zero] at hst
        have hsz : xv.cells.size = i0.size := by simpa using hlen
        simp [Instr.storeAt, Instr.sureAddr, storeVar, run_sizeOf h1, hsz, hst, splice]
      have hb := m.blks n
      split at he
      · rename_i cells hbl
        rw [restr_eq hbl (by simp)] at hb
        split at he <;> simp only [Option.some.injEq, Prod.mk.injEq, reduceCtorEq] at he
        rename_i hi
        obtain ⟨rfl, hle⟩ := hi
        obtain ⟨rfl, rfl⟩ := he
        obtain ⟨l', cs, ety, a1, a2, a3, a4, a5⟩ := hb
        rw [hL] at a1; cases a1
        have hcsl := (RepAs_iff.1 a4).1
        refine ⟨rfl, _, ?_, m.rewrite (w' := w.setRow l.blk ⟨splice cs j xv.cells.toList⟩) (by rw [restr_eq hbl (by simp)]; rfl) hL hnul (.var (splice cells j x.cells)) (setRow_size _ _ _) (fun k hk => setRow_other w l.blk k _ hk) (fun o v hv => by rw [a5] at hv; cases hv) rfl rfl rfl ?_⟩
        · rw [Nat.zero_mul, Nat.zero_add]
          exact run ⟨cs⟩ ety j a3 (by simp; omega)
        · refine ⟨l, _, ety, hL, hnul, setRow_heap w l.blk _ _ ety _ a3, ?_, a5⟩
          unfold splice
          rw [hlen, hcl]
          exact RepAs_append (RepAs_append (RepAs_take a4) hrx) (RepAs_drop a4)
      · rename_i e s xs hbl
        rw [restr_eq hbl (by simp)] at hb
        split at he
        · rename_i x0 ds hx0 hds
          split at he <;> simp only [Option.some.injEq, Prod.mk.injEq, reduceCtorEq] at he
          rename_i hle
          have hle : j + i0.size ≤ x0.length := hle
          obtain ⟨rfl, rfl⟩ := he
          obtain ⟨l', a1, a2, a3, a4⟩ := hb
          rw [hL] at a1; cases a1
          rw [hnul] at a4
          obtain ⟨cs, a5, a6, a7, a8, a9⟩ := a4
          obtain ⟨hx0l, hx0c⟩ := a8 i x0 hx0
          have hi : i < xs.length := (List.getElem?_eq_some_iff.1 hx0).1
          have hrow : (i + 1) * s ≤ xs.length * s := Nat.mul_le_mul_right _ hi
          rw [Nat.add_mul, Nat.one_mul] at hrow
          obtain ⟨h', le, _, hdl, hdg⟩ := toDs_sound (tl := tl) (bl := bl) [] (by simpa [frzW, upds] using m) hrx hds
          have hmu : ∀ o, h.μ l.blk o = none := fun o => by
            cases e : h.μ l.blk o with
            | none => rfl
            | some v => have := (a9 o v e).1; cases this
          have hdsl : ds.length = i0.size := by rw [← hdl, hlen]
          have hfit : i * s + j + xv.cells.toList.length ≤ cs.toList.length := by rw [hlen, Array.length_toList]; omega
          -- what is stored is data that no block bears: its reading does not hang on what was held
          have hds0 : ∀ (j : Nat) (c : D), ds[j]? = some c → ∃ u : Value, xv.cells.toList[j]? = some u ∧ RepD h.μ u c := by
            have key : ∀ (cs : List AV) (ds : List D) (vs : List Value), RepAs h vs cs → toDs (restr tl bl) cs = some (ds, []) → ∀ (j : Nat) (c : D), ds[j]? = some c → ∃ u : Value, vs[j]? = some u ∧ RepD h.μ u c := by
              intro cs
              induction cs with
              | nil => intro ds vs _ ht j c hj; simp only [toDs, Option.some.injEq, Prod.mk.injEq] at ht; rw [← ht.1] at hj; simp at hj
              | cons c0 cs ih =>
                intro ds vs hr ht j c hj
                simp only [toDs] at ht
                split at ht <;> simp only [Option.some.injEq, Prod.mk.injEq, reduceCtorEq, List.append_eq_nil_iff] at ht
                rename_i y l1 ys l2 e1 e2
                obtain ⟨rfl, rfl, rfl⟩ := ht
                simp only [RepAs] at hr
                obtain ⟨u, us, rfl, hu, hus⟩ := hr
                cases j with
                | zero =>
                  simp at hj
                  subst hj
                  refine ⟨u, rfl, ?_⟩
                  cases c0 <;> simp only [toD] at e1 <;> first | (cases e1; done) | skip
                  case d z => simp only [Option.some.injEq, Prod.mk.injEq] at e1; rw [← e1.1]; simpa [RepA] using hu
                  case nils => simp only [Option.some.injEq, Prod.mk.injEq] at e1; rw [← e1.1]; simp only [RepA] at hu; subst hu; simp [RepD]
                  case ref =>
                    split at e1
                    · split at e1 <;> simp at e1
                    · cases e1
                | succ j => simpa using ih ys us hus e2 j c (by simpa using hj)
            exact key _ _ _ hrx hds
          refine ⟨rfl, _, run cs e (i * l.sz + j) a5 (by rw [a2]; omega), m.rewrite (w' := w.setRow l.blk ⟨splice cs.toList (i * l.sz + j) xv.cells.toList⟩) (by rw [restr_eq hbl (by simp)]; rfl) hL hnul (.arr e s (xs.set i (splice x0 j ds)) false) (setRow_size _ _ _) (fun k hk => setRow_other w l.blk k _ hk) (fun o v hv => by rw [hmu] at hv; cases hv) rfl rfl rfl ?_⟩
          refine ⟨l, hL, a2, a3, ?_⟩
          rw [hnul]
          simp only [Bool.false_eq_true, if_false]
          rw [a2]
          refine ⟨_, setRow_heap w l.blk _ _ e _ a5, ?_, ?_, ?_, fun o v hv => by rw [hmu] at hv; cases hv⟩
          · have := splice_length hfit; simp only [Array.length_toList] at this; rw [← a6]; simpa using this
          · have := splice_length hfit; simp only [Array.length_toList] at this; simp only [List.length_set]; simpa [this] using a7
          · intro i' x' hx'
            have hcell : ∀ k, (⟨splice cs.toList (i * s + j) xv.cells.toList⟩ : Array Value)[k]? = if i * s + j ≤ k ∧ k < i * s + j + i0.size then xv.cells.toList[k - (i * s + j)]? else cs[k]? := fun k => by
              have := splice_get hfit k
              rw [hlen] at this
              simpa using this
            by_cases hii : i' = i
            · subst hii
              rw [List.getElem?_set_self hi] at hx'
              cases hx'
              refine ⟨by rw [splice_length (by rw [hdsl]; exact hle), hx0l], fun k c hk => ?_⟩
              rw [splice_get (by rw [hdsl]; exact hle), hdsl] at hk
              rw [hcell]
              by_cases hin : j ≤ k ∧ k < j + i0.size
              · rw [if_pos hin] at hk
                rw [if_pos (by omega)]
                have := hds0 _ c hk
                rwa [show i' * s + k - (i' * s + j) = k - j from by omega]
              · rw [if_neg hin] at hk
                rw [if_neg (by omega)]
                exact hx0c k c hk
            · rw [List.getElem?_set_ne (by omega)] at hx'
              obtain ⟨b1, b2⟩ := a8 i' x' hx'
              refine ⟨b1, fun k c hk => ?_⟩
              rw [hcell]
              have hks : k < s := by have := (List.getElem?_eq_some_iff.1 hk).1; omega
              have hjs : j + i0.size ≤ s := by omega
              rw [if_neg]
              · exact b2 k c hk
              · intro hcc
                rcases Nat.lt_or_ge i' i with q | q
                · have : (i' + 1) * s ≤ i * s := Nat.mul_le_mul_right _ q
                  rw [Nat.add_mul, Nat.one_mul] at this; omega
                · have : (i + 1) * s ≤ i' * s := Nat.mul_le_mul_right _ (by omega)
                  rw [Nat.add_mul, Nat.one_mul] at this; omega
        · cases he
      · cases he
    · cases he

theorem makeSliceE_sound {C : Ctx} {bl : Nat → Blk} {w : World} {h : Gh} (m : Mem C bl w h) {dst : Option Tmp} (hdst : ∀ n, dst = some n → n < firstName) {tl : List Nat} {t : TypeId} {l c v : AV} {wr : List (Nat × Blk)} {lv cv : Value}
    (hl : RepA h lv l) (hc : RepA h cv c) (he : makeSliceE C.P dst t (restr tl bl) l c = some (v, wr)) :
    Good C bl h wr v ((Instr.makeSlice t lv cv).run C.P w) := by
  unfold makeSliceE at he
  split at he
  · rename_i sz0 by0 z0 e ln cn hti hln hcn
    obtain ⟨i, d, h1, h2, h3⟩ := tinf_some hti
    have hd := kind_slice (P := C.P) (d := d) (by injection h3 with _ _ _ h4; exact h4.symm)
    subst hd
    obtain ⟨kl, rfl⟩ := intOfA_rep hl hln
    obtain ⟨kc, rfl⟩ := intOfA_rep hc hcn
    split at he
    · rename_i te hte
      obtain ⟨ie, de, e1, e2, rfl⟩ := tinf_some hte
      split at he
      · rename_i z hz
        simp only [Option.map_eq_some_iff] at hz
        obtain ⟨zv, hz1, rfl⟩ := hz
        split at he
        · rename_i hcond
          obtain ⟨c1, rfl, c3, c4, c5, c6⟩ := hcond
          simp only at c4 c5 c6
          split at he
          · rename_i ds hds
            obtain ⟨n, rfl, hfree, rfl, rfl⟩ := newE_some he
            have hfree := restr_eq hfree (by simp)
            have hrun := run_make (P := C.P) w t e ie zv h2 e1 hz1 kl kc ln ln c1 (Int.le_refl _) c4 c3
            rw [hrun]
            obtain ⟨h0, le0, m0, hdl, hdg⟩ := toDs_sound (tl := tl) (bl := bl) [] (by simpa [frzW, upds] using m) (RepAs_const (h := h) zv.cells.toList) hds
            have m0' : Mem C bl w h0 := by simpa [frzW, upds] using m0
            have hdsl : ds.length = ie.size := by rw [← hdl, c6]
            have hzs : zv.cells.size = ie.size := by simpa using c6
            obtain ⟨h', le, m', r'⟩ := newArr_sound (ety := e) m0' (hdst n rfl) hfree c5 (cs := madeCells zv.cells (ln.toNat * ie.size)) (xs := List.replicate ln.toNat ds) (cap := ln.toNat) (len := ln.toNat) false
              (by rw [size_madeCells]) (by simp) (by simp only [maxLen]; omega) (by simp) (fun i x hx => by
              rw [List.getElem?_replicate] at hx
              split at hx <;> simp only [Option.some.injEq, reduceCtorEq] at hx
              rename_i hi
              subst hx
              refine ⟨hdsl, fun j c hj => ?_⟩
              obtain ⟨u, hu, hr⟩ := hdg j c hj
              have hj' : j < ie.size := by have := (List.getElem?_eq_some_iff.1 hj).1; omega
              have hrow : (i + 1) * ie.size ≤ ln.toNat * ie.size := Nat.mul_le_mul_right _ hi
              rw [Nat.add_mul, Nat.one_mul] at hrow
              refine ⟨u, ?_, hr⟩
              have hmod : (i * ie.size + j) % zv.cells.size = j := by rw [hzs, Nat.mul_add_mod_of_lt hj']
              unfold madeCells
              rw [Array.getElem?_map, Array.getElem?_range, if_pos (by omega)]
              simp only [Option.map_some, hmod, Option.some.injEq]
              have hj2 : j < zv.cells.size := by omega
              have : zv.cells[j]? = some u := by simpa using hu
              rw [getElem!_pos zv.cells j hj2]
              simpa [Array.getElem?_eq_getElem hj2] using this)
            exact ⟨_, _, h', rfl, le0.trans le, m', r'⟩
          · cases he
        · cases he
      · cases he
    · cases he
  · cases he
end Go.Ab
