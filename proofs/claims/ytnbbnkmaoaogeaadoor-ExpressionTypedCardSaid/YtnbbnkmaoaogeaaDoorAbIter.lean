/- Range over a string. -/
import Derived.Test.YtnbbnkmaoaogeaaDoorAbAppend
set_option linter.all false
namespace Go.Ab
theorem rangeE_sound {C : Ctx} {bl : Nat → Blk} {w : World} {h : Gh} (m : Mem C bl w h) {t : TypeId} {ti : TI} (hti : tinf C.P t = some ti) {dst : Option Tmp} (hdst : ∀ n, dst = some n → n < firstName)
    {tl : List Nat} {x v : AV} {wr : List (Nat × Blk)} {u : Value} (hx : RepA h u x) (he : rangeE ti.kind dst (restr tl bl) x = some (v, wr)) : Good C bl h wr v ((Instr.range t u).run C.P w) := by
  unfold rangeE at he
  split at he
  · rename_i s hk
    obtain ⟨n, rfl, hfree, rfl, rfl⟩ := newE_some he
    have hfree := restr_eq hfree (by simp)
    obtain ⟨i, d, h1, h2, h3⟩ := tinf_some hti
    have hd : d = .string := by
      subst h3
      cases d <;> simp [tkOf] at hk ⊢
    subst hd
    simp only [RepA, RepD] at hx
    subst hx
    have hL : h.L n = none := by have := m.blks n; rw [hfree] at this; exact this
    have hsz : ∀ o, h.μ w.heap.size o = none := fun o => by
      cases e : h.μ w.heap.size o with
      | none => rfl
      | some v => exact absurd (mu_lt m e) (by omega)
    have m' := m.allocG hfree (.iter s 0) (.stringIter ⟨s.toArray⟩ 0) 0 0 ⟨⟨w.heap.size, 0, 0, false⟩, by simp [Gh.add], rfl, by simpa using heap_alloc_new w _, hsz⟩ (hdst n rfl)
    refine ⟨.pointer (some ⟨w.heap.size, 0, none⟩), _, _, ?_, Gh.le_add hL, m', ?_⟩
    · simp [Instr.range, run_underlying h2]
    · simp [RepA, Gh.add]
  · cases he

theorem nextE_sound {C : Ctx} {bl : Nat → Blk} {w : World} {h : Gh} (m : Mem C bl w h) {t : TypeId} {tl : List Nat} {x v : AV} {wr : List (Nat × Blk)} {u : Value} (hx : RepA h u x) (htl : ∀ p ∈ wr, p.1 ∈ tl)
    (he : nextE (restr tl bl) x = some (v, wr)) : Good C bl h wr v ((Instr.next u true t).run C.P w) := by
  unfold nextE at he
  split at he
  · rename_i n
    split at he
    · rename_i s i hb
      have hb' := restr_eq hb (by simp)
      have hbn := m.blks n
      rw [hb'] at hbn
      obtain ⟨l, h1, h2, h3, h4⟩ := hbn
      simp only [RepA] at hx
      obtain ⟨l', h5, h6, h7⟩ := hx
      rw [h1] at h5; cases h5
      subst h7
      split at he
      · rename_i hi
        simp only [Option.some.injEq, Prod.mk.injEq] at he
        obtain ⟨rfl, rfl⟩ := he
        have m' := m.rewrite (w' := { w with heap := w.heap.setIfInBounds l.blk (.stringIter ⟨s.toArray⟩ (i + (Utf8.decode ⟨s.toArray⟩ i).2)) }) (n := n) (l := l) (by rw [hb']; rfl) h1 h2 (.iter s (i + (Utf8.decode ⟨s.toArray⟩ i).2)) (by simp)
          (fun k hk => by simp [Array.getElem?_setIfInBounds, Ne.symm hk]) (fun o v hv => by rw [h4] at hv; cases hv) rfl rfl rfl
          ⟨l, h1, h2, by simp [Array.getElem?_setIfInBounds, heap_lt h3], h4⟩
        refine ⟨.tuple #[.bool true, goInt i, .int .i32 (Utf8.decode ⟨s.toArray⟩ i).1], _, h, ?_, .refl h, m', ?_⟩
        · have hz : ByteArray.size ⟨s.toArray⟩ = s.length := by simp [ByteArray.size]
          simp [Instr.next, getObj, setObj, Sem.run, h3, hz, hi]
        · simp [RepA, RepAs, RepD, goInt]
      · rename_i hi
        simp only [Option.some.injEq, Prod.mk.injEq] at he
        obtain ⟨rfl, rfl⟩ := he
        have hz : ByteArray.size ⟨s.toArray⟩ = s.length := by simp [ByteArray.size]
        have e : (Instr.next (.pointer (some ⟨l.blk, 0 * l.sz + 0, none⟩)) true t).run C.P w = .ok (.tuple #[.bool false]) w := by
          simp [Instr.next, getObj, Sem.run, h3, hz, hi]
        rw [e]
        exact Good.still m (by simp [RepA, RepAs, RepD])
    · cases he
  · cases he
end Go.Ab
