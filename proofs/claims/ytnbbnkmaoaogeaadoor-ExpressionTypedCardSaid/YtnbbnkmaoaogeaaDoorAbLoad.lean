/- Operations that look into memory or make a block: each is as the abstract machine has it. -/
import Derived.Test.YtnbbnkmaoaogeaaDoorAbMem
set_option linter.all false
namespace Go.Ab

theorem tinf_some {P : Program} {t : TypeId} {ti : TI} (h : tinf P t = some ti) :
    ∃ i d, P.info? t = some i ∧ P.underlying t = some d ∧ ti = { size := i.size, bytes := i.bytes, zero := i.zero.map (·.cells.toList), kind := tkOf P d } := by
  unfold tinf at h
  split at h
  · rename_i i d h1 h2
    exact ⟨i, d, h1, h2, by simpa using h.symm⟩
  · cases h

theorem tk_agg {P : Program} {d : TypeDesc} : (tkOf P d).agg = isAggD d := by cases d <;> rfl

theorem run_isAgg {P : Program} {t : TypeId} {d : TypeDesc} (h : P.underlying t = some d) (w : World) : (isAgg t).run P w = .ok (isAggD d) w := by
  unfold isAgg
  simp only [Sem.run_bind, run_underlying h, Result.andThen_ok]
  cases d <;> rfl
theorem run_sizeOf {P : Program} {t : TypeId} {i : TypeInfo} (h : P.info? t = some i) (w : World) : (sizeOf t).run P w = .ok i.size w := by
  simp [sizeOf, typeInfo, h]
theorem run_typeInfo {P : Program} {t : TypeId} {i : TypeInfo} (h : P.info? t = some i) (w : World) : (typeInfo t).run P w = .ok i w := by
  simp [typeInfo, h]

/-- The outcome of an operation: a value, and a memory that the abstract machine's writes describe. -/
def Good (C : Ctx) (bl : Nat → Blk) (h : Gh) (wr : List (Nat × Blk)) (v : AV) (r : Result Value) : Prop :=
  ∃ u w' h', r = .ok u w' ∧ h.le h' ∧ Mem C (upds bl wr) w' h' ∧ RepA h' u v

theorem Good.still {C : Ctx} {bl : Nat → Blk} {h : Gh} {w : World} {v : AV} {u : Value} (m : Mem C bl w h) (hr : RepA h u v) : Good C bl h [] v (.ok u w) :=
  ⟨u, w, h, rfl, .refl h, m, hr⟩

theorem RepAs_take {h : Gh} {n : Nat} {vs : List Value} {cs : List AV} (hr : RepAs h vs cs) : RepAs h (vs.take n) (cs.take n) := by
  rw [RepAs_iff] at *
  refine ⟨by simp [hr.1], fun j c hj => ?_⟩
  rw [List.getElem?_take] at hj
  split at hj
  · rename_i hlt
    obtain ⟨v, a, b⟩ := hr.2 j c hj
    exact ⟨v, by rw [List.getElem?_take, if_pos hlt]; exact a, b⟩
  · cases hj
theorem RepAs_drop {h : Gh} {n : Nat} {vs : List Value} {cs : List AV} (hr : RepAs h vs cs) : RepAs h (vs.drop n) (cs.drop n) := by
  rw [RepAs_iff] at *
  refine ⟨by simp [hr.1], fun j c hj => ?_⟩
  rw [List.getElem?_drop] at hj
  obtain ⟨v, a, b⟩ := hr.2 _ c hj
  exact ⟨v, by rw [List.getElem?_drop]; exact a, b⟩
theorem RepAs_append {h : Gh} {vs us : List Value} {cs ds : List AV} (hr : RepAs h vs cs) (hs : RepAs h us ds) : RepAs h (vs ++ us) (cs ++ ds) := by
  induction cs generalizing vs with
  | nil => simp only [RepAs] at hr; subst hr; simpa using hs
  | cons c cs ih =>
    simp only [RepAs] at hr
    obtain ⟨u, us', rfl, h1, h2⟩ := hr
    exact ⟨u, us' ++ us, rfl, h1, ih h2⟩

theorem run_loadVar_at {P : Program} {t : TypeId} {ti : TI} (hti : tinf P t = some ti) {w : World} {h : Gh} {b o : Nat} {vs : List Value} {cells : List AV} {v : AV}
    (hat : ∀ j u, vs[j]? = some u → w.cell? ⟨b, o + j, none⟩ = some u) (hr : RepAs h vs cells) (hp : partAt' ti.kind.agg ti.size cells = some v) :
    ∃ u, (loadVar t ⟨b, o, none⟩).run P w = .ok u w ∧ RepA h u v := by
  obtain ⟨i, d, h1, h2, rfl⟩ := tinf_some hti
  simp only [tk_agg, partAt'] at hp
  unfold loadVar
  simp only [Sem.run_bind, run_isAgg h2, Result.andThen_ok]
  cases hd : isAggD d with
  | true =>
    rw [hd] at hp
    simp only [if_true] at hp ⊢
    split at hp <;> simp only [Option.some.injEq, reduceCtorEq] at hp
    rename_i hsz
    subst hp
    have hl : (vs.take i.size).length = i.size := by rw [List.length_take, (RepAs_iff.1 hr).1]; omega
    have hrun := run_loadCells_list (P := P) w ⟨b, o, none⟩ (vs.take i.size) (fun j u hj => by
      rw [List.getElem?_take] at hj
      split at hj
      · rw [Addr.add_lit]; exact hat j u hj
      · cases hj)
    rw [hl] at hrun
    exact ⟨.agg ⟨vs.take i.size⟩, by simp [run_sizeOf h1, hrun], _, rfl, RepAs_take hr⟩
  | false =>
    rw [hd] at hp
    simp only [Bool.false_eq_true, if_false] at hp ⊢
    cases cells with
    | nil => simp at hp
    | cons c cs =>
      simp only [List.head?_cons, Option.some.injEq] at hp
      subst hp
      simp only [RepAs] at hr
      obtain ⟨u, us, rfl, h3, _⟩ := hr
      have := hat 0 u rfl
      simp only [Nat.add_zero] at this
      exact ⟨u, by simp [this], h3⟩

theorem restr_eq {t : List Nat} {bl : Nat → Blk} {n : Nat} {b : Blk} (h : restr t bl n = b) (hb : b ≠ .dead) : bl n = b := by
  unfold restr at h
  split at h
  · exact h
  · exact absurd h.symm hb

theorem RepAs_map_d {h : Gh} {ds : List D} {vs : List Value} (hl : vs.length = ds.length) (hg : ∀ (j : Nat) (c : D), ds[j]? = some c → ∃ v : Value, vs[j]? = some v ∧ RepD h.μ v c) : RepAs h vs (ds.map AV.d) := by
  rw [RepAs_iff]
  refine ⟨by simp [hl], fun j c hj => ?_⟩
  rw [List.getElem?_map] at hj
  cases hd : ds[j]? with
  | none => rw [hd] at hj; simp at hj
  | some x =>
    rw [hd] at hj
    simp only [Option.map_some, Option.some.injEq] at hj
    subst hj
    obtain ⟨v, a, b⟩ := hg j x hd
    exact ⟨v, a, by simpa [RepA] using b⟩

theorem loadE_sound {C : Ctx} {bl : Nat → Blk} {w : World} {h : Gh} (m : Mem C bl w h) {t : TypeId} {ti : TI} (hti : tinf C.P t = some ti) {tl : List Nat} {p v : AV} {wr : List (Nat × Blk)} {pv : Value}
    (hp : RepA h pv p) (he : loadE ti (restr tl bl) p = some (v, wr)) : wr = [] ∧ ∃ u, (Instr.loadAt t pv).run C.P w = .ok u w ∧ RepA h u v := by
  cases p with
  | ptr n i j =>
    simp only [RepA] at hp
    obtain ⟨l, hL, hnul, rfl⟩ := hp
    simp only [loadE] at he
    have hb := m.blks n
    split at he
    · rename_i cells hbl
      rw [restr_eq hbl (by simp)] at hb
      split at he
      · rename_i hi
        subst hi
        simp only [Option.map_eq_some_iff, Prod.mk.injEq] at he
        obtain ⟨v', hpart, rfl, rfl⟩ := he
        obtain ⟨l', cs, ety, h1, h2, h3, h4, h5⟩ := hb
        rw [hL] at h1; cases h1
        obtain ⟨u, hu, hru⟩ := run_loadVar_at (w := w) (b := l.blk) (o := j) hti (fun k u hk => by
          rw [List.getElem?_drop] at hk
          rw [cell_of_row w l.blk (j + k) _ ety (0, 0) h3]; simpa using hk) (RepAs_drop h4) hpart
        refine ⟨rfl, u, ?_, hru⟩
        simp only [Instr.loadAt, Instr.sureAddr, Nat.zero_mul, Nat.zero_add, Sem.run_bind, Sem.run_pure, Result.andThen_ok]
        exact hu
      · cases he
    · rename_i ety sz xs frz hbl
      rw [restr_eq hbl (by simp)] at hb
      split at he
      · rename_i x hx
        simp only [Option.map_eq_some_iff, Prod.mk.injEq] at he
        obtain ⟨v', hpart, rfl, rfl⟩ := he
        obtain ⟨l', h1, h2, h3, h4⟩ := hb
        rw [hL] at h1; cases h1
        rw [hnul] at h4
        obtain ⟨cs, h5, h6, h7, h8, h9⟩ := h4
        obtain ⟨hxl, hxc⟩ := h8 i x hx
        have hi : i < xs.length := (List.getElem?_eq_some_iff.1 hx).1
        have hrow : (i + 1) * sz ≤ xs.length * sz := Nat.mul_le_mul_right _ hi
        rw [Nat.add_mul] at hrow
        have hrep : RepAs h ((cs.toList.drop (i * sz)).take sz) (x.map AV.d) := RepAs_map_d (by simp; omega) fun k c hk => by
          obtain ⟨v, a, b⟩ := hxc k c hk
          have hk' : k < sz := by have := (List.getElem?_eq_some_iff.1 hk).1; omega
          exact ⟨v, by rw [List.getElem?_take, if_pos hk', List.getElem?_drop]; simpa using a, b⟩
        obtain ⟨u, hu, hru⟩ := run_loadVar_at (w := w) (b := l.blk) (o := i * l.sz + j) hti (fun k u hk => by
          rw [List.getElem?_drop, List.getElem?_take] at hk
          split at hk
          · rw [List.getElem?_drop] at hk
            rw [cell_of_row w l.blk _ _ ety (0, 0) h5, h2, Nat.add_assoc]; simpa using hk
          · cases hk) (RepAs_drop hrep) hpart
        refine ⟨rfl, u, ?_, hru⟩
        simp only [Instr.loadAt, Instr.sureAddr, Sem.run_bind, Sem.run_pure, Result.andThen_ok]
        exact hu
      · cases he
    · cases he
  | dp cs =>
    simp only [RepA] at hp
    obtain ⟨b, o, rfl, hc⟩ := hp
    rw [RepCells_iff] at hc
    simp only [loadE, Option.map_eq_some_iff, Prod.mk.injEq] at he
    obtain ⟨v', hpart, rfl, rfl⟩ := he
    obtain ⟨u, hu, hru⟩ := run_loadVar_at (w := w) (b := b) (o := o) (vs := (List.range cs.length).map fun j => (h.μ b (o + j)).getD undef) hti (fun k u hk => by
      rw [List.getElem?_map] at hk
      by_cases hk' : k < cs.length
      · rw [List.getElem?_range hk'] at hk
        obtain ⟨v, a, _⟩ := hc k _ (List.getElem?_eq_getElem hk')
        simp only [Option.map_some, Option.some.injEq, a, Option.getD_some] at hk
        subst hk
        exact m.con _ _ _ a
      · rw [List.getElem?_eq_none (by simpa using hk')] at hk; simp at hk) (RepAs_map_d (by simp) fun k c hk => by
      obtain ⟨v, a, b'⟩ := hc k c hk
      have hk' : k < cs.length := (List.getElem?_eq_some_iff.1 hk).1
      exact ⟨v, by rw [List.getElem?_map, List.getElem?_range hk']; simp [a], b'⟩) hpart
    refine ⟨rfl, u, ?_, hru⟩
    simp only [Instr.loadAt, Instr.sureAddr, Sem.run_bind, Sem.run_pure, Result.andThen_ok]
    exact hu
  | _ => simp [loadE] at he

/-! A new block. -/
theorem newE_some {dst : Option Tmp} {bl : Nat → Blk} {b : Blk} {f : Nat → AV} {v : AV} {wr : List (Nat × Blk)} (h : newE dst bl b f = some (v, wr)) :
    ∃ n, dst = some n ∧ bl n = .free ∧ v = f n ∧ wr = [(n, b)] := by
  unfold newE at h
  split at h
  · rename_i n
    split at h
    · rename_i hf
      simp only [Option.some.injEq, Prod.mk.injEq] at h
      exact ⟨n, rfl, hf, h.1.symm, h.2.symm⟩
    · cases h
  · cases h

theorem newVar_sound {C : Ctx} {bl : Nat → Blk} {w : World} {h : Gh} (m : Mem C bl w h) {n : Nat} (hn : n < firstName) (hfree : bl n = .free) (t : TypeId) {cells : List AV} {cv : Value}
    (hr : RepAs h cv.cells.toList cells) : Good C bl h [(n, .var cells)] (.ptr n 0 0) ((do pure (.pointer (some (← newVar t cv))) : Sem Value).run C.P w) := by
  have hL : h.L n = none := by have := m.blks n; rw [hfree] at this; exact this
  have hsz : ∀ o, h.μ w.heap.size o = none := fun o => by
    cases e : h.μ w.heap.size o with
    | none => rfl
    | some v => exact absurd (mu_lt m e) (by omega)
  have m' := m.alloc hfree (.var cells) cv.cells t cv.cells.size ⟨⟨w.heap.size, cv.cells.size, cv.cells.size, false⟩, cv.cells.toList, t, by simp [Gh.add], rfl, by simpa using heap_alloc_new w _, RepAs_mono (Gh.le_add hL) _ _ hr, hsz⟩ hn
  refine ⟨.pointer (some ⟨w.heap.size, 0, none⟩), _, _, ?_, Gh.le_add hL, m', ?_⟩
  · simp [newVar, newRow]
  · simp [RepA, Gh.add]

theorem constAV_rep {h : Gh} (v : Value) : RepA h v (constAV v) := by
  unfold constAV
  split <;> simp [RepA, RepD, Value.oneCell']
theorem RepAs_const {h : Gh} (vs : List Value) : RepAs h vs (vs.map constAV) := by
  induction vs with
  | nil => simp [RepAs]
  | cons v vs ih => exact ⟨v, vs, rfl, constAV_rep v, ih⟩

theorem allocE_sound {C : Ctx} {bl : Nat → Blk} {w : World} {h : Gh} (m : Mem C bl w h) {t : TypeId} {ti : TI} (hti : tinf C.P t = some ti) {z : List Value} (hz : ti.zero = some z) {n : Nat} (hn : n < firstName)
    (hfree : bl n = .free) : Good C bl h [(n, .var (z.map constAV))] (.ptr n 0 0) ((Instr.alloc t true (.tuple #[])).run C.P w) := by
  obtain ⟨i, d, h1, h2, rfl⟩ := tinf_some hti
  simp only [Option.map_eq_some_iff] at hz
  obtain ⟨zv, hz1, rfl⟩ := hz
  have hg := newVar_sound (cv := zv) m hn hfree t (RepAs_const _)
  have e : (Instr.alloc t true (.tuple #[])).run C.P w = ((do pure (.pointer (some (← newVar t zv))) : Sem Value).run C.P w) := by
    simp [Instr.alloc, zeroValue, typeInfo, h1, hz1]
  rw [e]
  exact hg

theorem boxE_sound {C : Ctx} {bl : Nat → Blk} {w : World} {h : Gh} (m : Mem C bl w h) {t : TypeId} {v : AV} {u : Value} (hr : RepA h u v) (hgd : v.good = true) {n : Nat} (hn : n < firstName)
    (hfree : bl n = .free) : Good C bl h [(n, .var v.cells)] (.ptr n 0 0) ((Instr.box t u).run C.P w) :=
  newVar_sound (cv := u) m hn hfree t (RepA_cells hr hgd)
end Go.Ab
