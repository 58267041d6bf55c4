/- The memory of an abstract state, and how a store, a new block, an append turn it. -/
import Derived.Test.YtnbbnkmaoaogeaaDoorAbRep
set_option linter.all false
namespace Go.Ab

/-- What stays fixed while a function runs. 'base': the blocks that were handed in to be turned. -/
structure Ctx where
  P : Program
  G : Nat → Option (List D)
  w0 : World
  h0 : Gh
  base : List Nat

def firstName : Nat := 1000000

structure Mem (C : Ctx) (bl : Nat → Blk) (w : World) (h : Gh) : Prop where
  blks : ∀ n, RepB h w n (bl n)
  con : ∀ b o v, h.μ b o = some v → w.cell? ⟨b, o, none⟩ = some v
  glob : ∀ g cs, C.G g = some cs → RepCells h.μ g 0 cs
  apart : ∀ n n' l l', n ≠ n' → (bl n).live = true → (bl n').live = true → h.L n = some l → h.L n' = some l' → l.nul = false → l'.nul = false → l.blk ≠ l'.blk
  own : ∀ n l, (bl n).live = true → h.L n = some l → l.nul = false → C.w0.heap.size ≤ l.blk ∨ l.blk ∈ C.base
  size : C.w0.heap.size ≤ w.heap.size
  frame : ∀ b, b < C.w0.heap.size → b ∉ C.base → w.heap[b]? = C.w0.heap[b]?
  mext : MuLe C.h0.μ h.μ
  mold : ∀ b, b < C.w0.heap.size → b ∉ C.base → ∀ o v, h.μ b o = some v → C.h0.μ b o = some v
  lkeep : ∀ n l, firstName ≤ n → C.h0.L n = some l → h.L n = some l
  os : w.os = C.w0.os
  tape : w.tape = C.w0.tape
  output : w.output = C.w0.output

theorem live_loc {h : Gh} {w : World} {n : Nat} {b : Blk} (hb : RepB h w n b) (hl : b.live = true) : ∃ l, h.L n = some l := by
  cases b <;> simp only [RepB, Blk.live] at * <;> first | (simp at hl; done) | skip
  · obtain ⟨l, _, _, h1, _⟩ := hb; exact ⟨l, h1⟩
  · obtain ⟨l, h1, _⟩ := hb; exact ⟨l, h1⟩
  · obtain ⟨l, h1, _⟩ := hb; exact ⟨l, h1⟩

theorem live_heap {h : Gh} {w : World} {n : Nat} {b : Blk} {l : Loc} (hb : RepB h w n b) (hl : b.live = true) (hL : h.L n = some l) (hn : l.nul = false) :
    ∃ (o : Obj) (_ : Unit), w.heap[l.blk]? = some o := by
  cases b <;> simp only [RepB, Blk.live] at * <;> first | (simp at hl; done) | skip
  · obtain ⟨l', cs, ety, h1, _, h3, _⟩ := hb
    rw [hL] at h1; cases h1; exact ⟨_, (), h3⟩
  · obtain ⟨l', h1, _, _, h4⟩ := hb
    rw [hL] at h1; cases h1
    rw [hn] at h4
    obtain ⟨cs, h5, _⟩ := h4
    exact ⟨_, (), h5⟩
  · obtain ⟨l', h1, _, h3, _⟩ := hb
    rw [hL] at h1; cases h1
    exact ⟨_, (), h3⟩

theorem heap_lt {w : World} {b : Nat} {o : Obj} (h : w.heap[b]? = some o) : b < w.heap.size := (Array.getElem?_eq_some_iff.1 h).1

/-- What is said of a block does not turn when the reading grows, the block itself being as it was. -/
theorem RepB_keep {h h' : Gh} {w w' : World} {n : Nat} {b : Blk} (hb : RepB h w n b) (le : h.le h') (hfree : h.L n = none → h'.L n = none)
    (hheap : ∀ l, b.live = true → h.L n = some l → l.nul = false → w'.heap[l.blk]? = w.heap[l.blk]?)
    (hmu : ∀ l, b.live = true → h.L n = some l → l.nul = false → ∀ o v, h'.μ l.blk o = some v → h.μ l.blk o = some v) : RepB h' w' n b := by
  cases b with
  | free => exact hfree hb
  | dead => obtain ⟨l, h1⟩ := hb; exact ⟨l, le.L n l h1⟩
  | var cells =>
    obtain ⟨l, cs, ety, h1, h2, h3, h4, h5⟩ := hb
    refine ⟨l, cs, ety, le.L n l h1, h2, (hheap l rfl h1 h2).trans h3, RepAs_mono le cells cs h4, fun o => ?_⟩
    cases hv : h'.μ l.blk o with
    | none => rfl
    | some v => have := hmu l rfl h1 h2 o v hv; rw [h5] at this; cases this
  | arr ety sz xs frz =>
    obtain ⟨l, h1, h2, h3, h4⟩ := hb
    refine ⟨l, le.L n l h1, h2, h3, ?_⟩
    cases hn : l.nul with
    | true => rw [hn] at h4; simpa using h4
    | false =>
      rw [hn] at h4
      obtain ⟨cs, h5, h6, h7, h8, h9⟩ := h4
      simp only [Bool.false_eq_true, if_false]
      refine ⟨cs, (hheap l rfl h1 hn).trans h5, h6, h7, fun i x hx => ⟨(h8 i x hx).1, fun j c hc => ?_⟩, fun o v hv => h9 o v (hmu l rfl h1 hn o v hv)⟩
      obtain ⟨v, hv, hr⟩ := (h8 i x hx).2 j c hc
      exact ⟨v, hv, RepD_mono le.μ c v hr⟩
  | iter s i =>
    obtain ⟨l, h1, h2, h3, h5⟩ := hb
    refine ⟨l, le.L n l h1, h2, (hheap l rfl h1 h2).trans h3, fun o => ?_⟩
    cases hv : h'.μ l.blk o with
    | none => rfl
    | some v => have := hmu l rfl h1 h2 o v hv; rw [h5] at this; cases this

theorem mu_lt {C : Ctx} {bl : Nat → Blk} {w : World} {h : Gh} (m : Mem C bl w h) {b o : Nat} {v : Value} (hv : h.μ b o = some v) : b < w.heap.size :=
  World.block_lt_of_cell? w _ (m.con b o v hv)

def Gh.add (h : Gh) (n : Nat) (l : Loc) : Gh := { h with L := fun m => if m = n then some l else h.L m }

theorem Gh.le_add {h : Gh} {n : Nat} {l : Loc} (hn : h.L n = none) : h.le (h.add n l) :=
  ⟨fun _ _ _ e => e, fun m l' e => by
    have : m ≠ n := fun e' => by subst e'; rw [hn] at e; cases e
    simp [Gh.add, this, e]⟩

/-- A draw. -/
theorem Mem.drew {C : Ctx} {bl : Nat → Blk} {w : World} {h : Gh} (m : Mem C bl w h) : Mem C bl w.drew h :=
  ⟨fun n => RepB_keep (m.blks n) (.refl h) id (fun _ _ _ _ => rfl) (fun _ _ _ _ _ _ e => e), m.con, m.glob, m.apart, m.own, m.size, m.frame, m.mext, m.mold, m.lkeep, m.os, m.tape, m.output⟩

/-- A new block. -/
theorem Mem.allocG {C : Ctx} {bl : Nat → Blk} {w : World} {h : Gh} (m : Mem C bl w h) {n : Nat} (hfree : bl n = .free) (b' : Blk) (ob : Obj) (asz sz : Nat)
    (hb : RepB (h.add n ⟨w.heap.size, asz, sz, false⟩) (w.alloc ob) n b') (hn : n < firstName) :
    Mem C (upd bl n b') (w.alloc ob) (h.add n ⟨w.heap.size, asz, sz, false⟩) := by
  have hL : h.L n = none := by have := m.blks n; rw [hfree] at this; exact this
  have le := Gh.le_add (l := ⟨w.heap.size, asz, sz, false⟩) hL
  have hold : ∀ k, k < w.heap.size → (w.alloc ob).heap[k]? = w.heap[k]? := fun k hk => RowKit.Below.heap_alloc w _ k hk
  refine ⟨fun k => ?_, fun b o v hv => ?_, fun g c hg => RepCells_mono le.μ _ _ _ (m.glob g c hg), ?_, ?_, ?_, ?_, m.mext, m.mold, ?_, m.os, m.tape, m.output⟩
  · by_cases hk : k = n
    · subst hk; simpa [upd] using hb
    · simp only [upd, if_neg hk]
      refine RepB_keep (m.blks k) le (fun e => by simp [Gh.add, hk, e]) (fun l h1 h2 h3 => ?_) (fun _ _ _ _ _ _ e => e)
      obtain ⟨c, e, hh⟩ := live_heap (m.blks k) h1 h2 h3
      exact hold _ (heap_lt hh)
  · have hlt := mu_lt m hv
    exact (World.cell?_of_block (w := w) (hold b hlt)).trans (m.con b o v hv)
  · intro i j l l' hij h1 h2 h3 h4 h5 h6
    by_cases hi : i = n
    · subst hi
      have hj : j ≠ i := fun e => hij e.symm
      simp only [upd, if_neg hj] at h2
      simp only [Gh.add, if_neg hj] at h4
      simp only [Gh.add, if_true] at h3
      cases h3
      obtain ⟨c, e, hh⟩ := live_heap (m.blks j) h2 h4 h6
      have := heap_lt hh
      simp only; omega
    · simp only [upd, if_neg hi] at h1
      simp only [Gh.add, if_neg hi] at h3
      by_cases hj : j = n
      · subst hj
        simp only [Gh.add, if_true] at h4
        cases h4
        obtain ⟨c, e, hh⟩ := live_heap (m.blks i) h1 h3 h5
        have := heap_lt hh
        simp only; omega
      · simp only [upd, if_neg hj] at h2
        simp only [Gh.add, if_neg hj] at h4
        exact m.apart i j l l' hij h1 h2 h3 h4 h5 h6
  · intro i l h1 h2 h3
    by_cases hi : i = n
    · subst hi
      simp only [Gh.add, if_true] at h2
      cases h2
      exact .inl m.size
    · simp only [upd, if_neg hi] at h1
      simp only [Gh.add, if_neg hi] at h2
      exact m.own i l h1 h2 h3
  · have := m.size; simp; omega
  · intro b hb1 hb2
    have := m.size
    exact (hold b (by omega)).trans (m.frame b hb1 hb2)
  · intro i l hi hl
    have : i ≠ n := by omega
    simp only [Gh.add, if_neg this]
    exact m.lkeep i l hi hl

theorem Mem.alloc {C : Ctx} {bl : Nat → Blk} {w : World} {h : Gh} (m : Mem C bl w h) {n : Nat} (hfree : bl n = .free) (b' : Blk) (cs : Array Value) (ety : TypeId) (sz : Nat)
    (hb : RepB (h.add n ⟨w.heap.size, cs.size, sz, false⟩) (w.alloc (.cells cs ety)) n b') (hn : n < firstName) :
    Mem C (upd bl n b') (w.alloc (.cells cs ety)) (h.add n ⟨w.heap.size, cs.size, sz, false⟩) := m.allocG hfree b' (.cells cs ety) cs.size sz hb hn

/-- One block is written over: the cells that anyone else reads are as they were. -/
theorem Mem.rewrite {C : Ctx} {bl : Nat → Blk} {w w' : World} {h : Gh} (m : Mem C bl w h) {n : Nat} {l : Loc} (hlive : (bl n).live = true) (hL : h.L n = some l) (hnul : l.nul = false)
    (b' : Blk) (hsize : w'.heap.size = w.heap.size) (hother : ∀ k, k ≠ l.blk → w'.heap[k]? = w.heap[k]?)
    (hcon : ∀ o v, h.μ l.blk o = some v → w'.cell? ⟨l.blk, o, none⟩ = some v)
    (hos : w'.os = w.os) (htape : w'.tape = w.tape) (hout : w'.output = w.output)
    (hb : RepB h w' n b') : Mem C (upd bl n b') w' h := by
  have hne : ∀ k l', k ≠ n → (bl k).live = true → h.L k = some l' → l'.nul = false → l'.blk ≠ l.blk := fun k l' hk h1 h2 h3 => m.apart k n l' l hk h1 hlive h2 hL h3 hnul
  refine ⟨fun k => ?_, fun b o v hv => ?_, m.glob, ?_, ?_, by rw [hsize]; exact m.size, ?_, m.mext, m.mold, m.lkeep, hos.trans m.os, htape.trans m.tape, hout.trans m.output⟩
  · by_cases hk : k = n
    · subst hk; simpa [upd] using hb
    · simp only [upd, if_neg hk]
      exact RepB_keep (m.blks k) (.refl h) id (fun l' h1 h2 h3 => hother _ (hne k l' hk h1 h2 h3)) (fun _ _ _ _ _ _ e => e)
  · by_cases hbk : b = l.blk
    · subst hbk; exact hcon o v hv
    · exact (World.cell?_of_block (w := w) (hother b hbk)).trans (m.con b o v hv)
  · intro i j l1 l2 hij h1 h2 h3 h4 h5 h6
    have live : ∀ k, (upd bl n b' k).live = true → (bl k).live = true := fun k hk => by
      by_cases e : k = n
      · subst e; exact hlive
      · simpa [upd, e] using hk
    exact m.apart i j l1 l2 hij (live i h1) (live j h2) h3 h4 h5 h6
  · intro i l1 h1 h2 h3
    have : (bl i).live = true := by
      by_cases e : i = n
      · subst e; exact hlive
      · simpa [upd, e] using h1
    exact m.own i l1 this h2 h3
  · intro b hb1 hb2
    have hbk : b ≠ l.blk := by
      rintro rfl
      rcases m.own n l hlive hL hnul with h1 | h1
      · omega
      · exact hb2 h1
    exact (hother b hbk).trans (m.frame b hb1 hb2)

/-- A block is given up. -/
theorem Mem.kill {C : Ctx} {bl : Nat → Blk} {w : World} {h : Gh} (m : Mem C bl w h) {n : Nat} (hlive : (bl n).live = true) : Mem C (upd bl n .dead) w h := by
  have live : ∀ k, (upd bl n .dead k).live = true → (bl k).live = true := fun k hk => by
    by_cases e : k = n
    · subst e; exact hlive
    · simpa [upd, e] using hk
  refine ⟨fun k => ?_, m.con, m.glob, fun i j l1 l2 hij h1 h2 => m.apart i j l1 l2 hij (live i h1) (live j h2), fun i l1 h1 => m.own i l1 (live i h1), m.size, m.frame, m.mext, m.mold, m.lkeep, m.os, m.tape, m.output⟩
  by_cases hk : k = n
  · subst hk; simpa [upd, RepB] using live_loc (m.blks k) hlive
  · simpa [upd, hk] using m.blks k

/-- A block takes over what another had: the same place, under a new name. -/
theorem Mem.move {C : Ctx} {bl : Nat → Blk} {w : World} {h : Gh} (m : Mem C bl w h) {n k : Nat} {l : Loc} (hnk : n ≠ k) (hlive : (bl k).live = true) (hL : h.L k = some l)
    (hfree : bl n = .free) (hn : n < firstName) : Mem C (upd (upd bl k .dead) n (bl k)) w (h.add n l) := by
  have hLn : h.L n = none := by have := m.blks n; rw [hfree] at this; exact this
  have le := Gh.le_add (l := l) hLn
  have hb : RepB (h.add n l) w n (bl k) := by
    have hb0 := m.blks k
    cases hbk : bl k with
    | free => rw [hbk] at hlive; simp [Blk.live] at hlive
    | dead => rw [hbk] at hlive; simp [Blk.live] at hlive
    | var cells =>
      rw [hbk] at hb0
      obtain ⟨l', cs, ety, h1, h2, h3, h4, h5⟩ := hb0
      rw [hL] at h1; cases h1
      exact ⟨l, cs, ety, by simp [Gh.add], h2, h3, RepAs_mono le _ _ h4, h5⟩
    | arr ety sz xs frz =>
      rw [hbk] at hb0
      obtain ⟨l', h1, h2, h3, h4⟩ := hb0
      rw [hL] at h1; cases h1
      exact ⟨l, by simp [Gh.add], h2, h3, h4⟩
    | iter s i =>
      rw [hbk] at hb0
      obtain ⟨l', h1, h2, h3, h4⟩ := hb0
      rw [hL] at h1; cases h1
      exact ⟨l, by simp [Gh.add], h2, h3, h4⟩
  have view : ∀ i l1, (upd (upd bl k .dead) n (bl k) i).live = true → (h.add n l).L i = some l1 → (i = n ∧ l1 = l) ∨ (i ≠ n ∧ i ≠ k ∧ (bl i).live = true ∧ h.L i = some l1) := fun i l1 h1 h2 => by
    by_cases e : i = n
    · subst e; simp [Gh.add] at h2; exact .inl ⟨rfl, h2.symm⟩
    · by_cases e' : i = k
      · subst e'; simp [upd, e, Blk.live] at h1
      · simp only [upd, if_neg e, if_neg e'] at h1
        simp only [Gh.add, if_neg e] at h2
        exact .inr ⟨e, e', h1, h2⟩
  refine ⟨fun i => ?_, m.con, m.glob, ?_, ?_, m.size, m.frame, m.mext, m.mold, ?_, m.os, m.tape, m.output⟩
  · by_cases e : i = n
    · subst e; simpa [upd] using hb
    · by_cases e' : i = k
      · subst e'; simp only [upd, if_neg e, if_true]; exact ⟨l, by simp [Gh.add, e, hL]⟩
      · simp only [upd, if_neg e, if_neg e']
        exact RepB_keep (m.blks i) le (fun e0 => by simp [Gh.add, e, e0]) (fun _ _ _ _ => rfl) (fun _ _ _ _ _ _ e => e)
  · intro i j l1 l2 hij h1 h2 h3 h4 h5 h6
    rcases view i l1 h1 h3 with ⟨rfl, rfl⟩ | ⟨a1, a2, a3, a4⟩ <;> rcases view j l2 h2 h4 with ⟨rfl, rfl⟩ | ⟨b1, b2, b3, b4⟩
    · exact absurd rfl hij
    · exact m.apart k j _ _ (Ne.symm b2) hlive b3 hL b4 h5 h6
    · exact m.apart i k _ _ a2 a3 hlive a4 hL h5 h6
    · exact m.apart i j _ _ hij a3 b3 a4 b4 h5 h6
  · intro i l1 h1 h2 h3
    rcases view i l1 h1 h2 with ⟨rfl, rfl⟩ | ⟨a1, a2, a3, a4⟩
    · exact m.own k _ hlive hL h3
    · exact m.own i _ a3 a4 h3
  · intro i l1 hi hl
    have : i ≠ n := by omega
    simp only [Gh.add, if_neg this]
    exact m.lkeep i l1 hi hl

/-- The cells of a block of data are held still from now on. -/
def Gh.hold (h : Gh) (b : Nat) (k : Nat) (f : Nat → Option Value) : Gh := { h with μ := fun b' o => if b' = b ∧ o < k then f o else h.μ b' o }
theorem Mem.freeze {C : Ctx} {bl : Nat → Blk} {w : World} {h : Gh} (m : Mem C bl w h) {n ety sz : Nat} {xs : List (List D)} {frz : Bool} (hbl : bl n = .arr ety sz xs frz) :
    ∃ h', h.le h' ∧ h'.L = h.L ∧ Mem C (upd bl n (.arr ety sz xs true)) w h' ∧
      (∀ l, h.L n = some l → l.nul = false → RepEls h'.μ l.blk 0 sz xs) ∧ ∀ b, (∀ l, h.L n = some l → l.nul = false → b ≠ l.blk) → ∀ o, h'.μ b o = h.μ b o := by
  have hb := m.blks n
  rw [hbl] at hb
  obtain ⟨l, h1, h2, h3, h4⟩ := hb
  cases hn : l.nul with
  | true =>
    refine ⟨h, .refl h, rfl, ?_, fun l' e1 e2 => (by rw [h1] at e1; cases e1; rw [hn] at e2; cases e2), fun _ _ _ => rfl⟩
    have live : ∀ k, (upd bl n (.arr ety sz xs true) k).live = true → (bl k).live = true := fun k hk => by
      by_cases e : k = n
      · subst e; rw [hbl]; rfl
      · simpa [upd, e] using hk
    refine ⟨fun k => ?_, m.con, m.glob, fun i j l1 l2 hij a b => m.apart i j l1 l2 hij (live i a) (live j b), fun i l1 a => m.own i l1 (live i a), m.size, m.frame, m.mext, m.mold, m.lkeep, m.os, m.tape, m.output⟩
    by_cases e : k = n
    · subst e
      simp only [upd, if_true]
      rw [hn] at h4
      exact ⟨l, h1, h2, h3, by rw [hn]; simpa using h4⟩
    · simpa [upd, e] using m.blks k
  | false =>
    rw [hn] at h4
    obtain ⟨cs, h5, h6, h7, h8, h9⟩ := h4
    have hlive : (bl n).live = true := by rw [hbl]; rfl
    let h' := h.hold l.blk (xs.length * sz) fun o => cs[o]?
    have hcell : ∀ o, w.cell? ⟨l.blk, o, none⟩ = cs[o]? := fun o => cell_of_row w l.blk o cs ety (0, 0) h5
    have hmu : MuLe h.μ h'.μ := fun b o v e => by
      by_cases c : b = l.blk ∧ o < xs.length * sz
      · obtain ⟨rfl, c2⟩ := c
        have := m.con _ _ _ e
        rw [hcell] at this
        simp [h', Gh.hold, c2, this]
      · simp [h', Gh.hold, c, e]
    have le : h.le h' := ⟨hmu, fun _ _ e => e⟩
    have hother : ∀ b, b ≠ l.blk → ∀ o, h'.μ b o = h.μ b o := fun b hb o => by simp [h', Gh.hold, hb]
    refine ⟨h', le, rfl, ?_, ?_, fun b hb o => hother b (hb l h1 hn) o⟩
    · refine ⟨fun k => ?_, fun b o v hv => ?_, fun g c hg => RepCells_mono hmu _ _ _ (m.glob g c hg), ?_, ?_, m.size, m.frame, fun b o v e => hmu _ _ _ (m.mext b o v e), ?_, m.lkeep, m.os, m.tape, m.output⟩
      · by_cases e : k = n
        · subst e
          simp only [upd, if_true]
          refine ⟨l, h1, h2, h3, ?_⟩
          rw [hn]
          refine ⟨cs, h5, h6, h7, fun i x hx => ⟨(h8 i x hx).1, fun j c hc => ?_⟩, fun o v hv => ⟨rfl, ?_⟩⟩
          · obtain ⟨v, a, b⟩ := (h8 i x hx).2 j c hc
            exact ⟨v, a, RepD_mono hmu c v b⟩
          · by_cases c : o < xs.length * sz
            · exact c
            · exact (h9 o v (by simpa [h', Gh.hold, c] using hv)).2
        · simp only [upd, if_neg e]
          refine RepB_keep (m.blks k) le id (fun _ _ _ _ => rfl) (fun l' a b c o v hv => ?_)
          rw [hother _ (m.apart k n l' l e a hlive b h1 c hn) o] at hv
          exact hv
      · by_cases c : b = l.blk ∧ o < xs.length * sz
        · obtain ⟨rfl, c2⟩ := c
          rw [hcell]
          simpa [h', Gh.hold, c2] using hv
        · exact m.con b o v (by simpa [h', Gh.hold, c] using hv)
      · intro i j l1 l2 hij a b
        have live : ∀ k, (upd bl n (.arr ety sz xs true) k).live = true → (bl k).live = true := fun k hk => by
          by_cases e : k = n
          · subst e; rw [hbl]; rfl
          · simpa [upd, e] using hk
        exact m.apart i j l1 l2 hij (live i a) (live j b)
      · intro i l1 a
        have : (bl i).live = true := by
          by_cases e : i = n
          · subst e; rw [hbl]; rfl
          · simpa [upd, e] using a
        exact m.own i l1 this
      · intro b hb1 hb2 o v hv
        have : b ≠ l.blk := by
          rintro rfl
          rcases m.own n l hlive h1 hn with e | e
          · omega
          · exact hb2 e
        rw [hother b this o] at hv
        exact m.mold b hb1 hb2 o v hv
    · intro l' e1 e2
      rw [h1] at e1; cases e1
      rw [RepEls_iff]
      intro i x hx
      refine ⟨(h8 i x hx).1, RepCells_iff.2 fun j c hc => ?_⟩
      obtain ⟨v, a, b⟩ := (h8 i x hx).2 j c hc
      have hj : j < sz := by have := (List.getElem?_eq_some_iff.1 hc).1; rw [(h8 i x hx).1] at this; exact this
      have hi : i < xs.length := (List.getElem?_eq_some_iff.1 hx).1
      have hlt : i * sz + j < xs.length * sz := by
        have : (i + 1) * sz ≤ xs.length * sz := Nat.mul_le_mul_right _ hi
        rw [Nat.add_mul] at this; omega
      refine ⟨v, ?_, RepD_mono hmu c v b⟩
      simp only [Nat.zero_add]
      simp [h', Gh.hold, hlt, a]
end Go.Ab
