/- Every operation that is no call of a Go function: as the abstract machine has it. -/
import Derived.Test.YtnbbnkmaoaogeaaDoorAbIter
set_option linter.all false
namespace Go.Ab

/-- The outcome of one operation. -/
def Done (C : Ctx) (bl : Nat → Blk) (h : Gh) (wr : List (Nat × Blk)) (v : AV) (r : Result Next) : Prop :=
  ∃ nx u w' h', r = .ok nx w' ∧ (nx = .value u ∨ (nx = .skip ∧ u = undef)) ∧ h.le h' ∧ Mem C (upds bl wr) w' h' ∧ RepA h' u v

theorem Good.done {C : Ctx} {bl : Nat → Blk} {h : Gh} {wr : List (Nat × Blk)} {v : AV} {w : World} {s : Sem Value} (g : Good C bl h wr v (s.run C.P w)) :
    Done C bl h wr v ((do pure (Next.value (← s)) : Sem Next).run C.P w) := by
  obtain ⟨u, w', h', hr, le, m, ru⟩ := g
  exact ⟨.value u, u, w', h', by simp [hr], .inl rfl, le, m, ru⟩

theorem Done.still {C : Ctx} {bl : Nat → Blk} {h : Gh} {w : World} (m : Mem C bl w h) {v : AV} {s : Sem Value} {u : Value} (hr : s.run C.P w = .ok u w) (ru : RepA h u v) :
    Done C bl h [] v ((do pure (Next.value (← s)) : Sem Next).run C.P w) :=
  Good.done (wr := []) ⟨u, w, h, hr, .refl h, m, ru⟩

theorem RepAs_map {h : Gh} {ev : Operand → Value} {ρ : Operand → AV} (hρ : ∀ x, RepA h (ev x) (ρ x)) (l : List Operand) : RepAs h (l.map ev) (l.map ρ) := by
  induction l with
  | nil => simp [RepAs]
  | cons x l ih => exact ⟨_, _, rfl, hρ x, ih⟩

theorem opt_rep {h : Gh} {ev : Operand → Value} {ρ : Operand → AV} (hρ : ∀ x, RepA h (ev x) (ρ x)) (o : Option Operand) :
    match o.map ρ, o.map ev with | some x, some v => RepA h v x | none, none => True | _, _ => False := by
  cases o
  · trivial
  · exact hρ _

theorem effF_sound {C : Ctx} {bl : Nat → Blk} {w : World} {h : Gh} (m : Mem C bl w h) {ev : Operand → Value} {ρ : Operand → AV} (hρ : ∀ x, RepA h (ev x) (ρ x)) {o : Oper} (hdst : ∀ n, o.dst = some n → n < firstName)
    {tl : List Nat} {v : AV} {wr : List (Nat × Blk)} (htl : ∀ p ∈ wr, p.1 ∈ tl) (he : effF C.P ρ o (restr tl bl) = some (v, wr)) : Done C bl h wr v ((execOp ev o).run C.P w) := by
  obtain ⟨dst, op, type, pos, after, guard⟩ := o
  simp only at hdst
  cases op <;> simp only [effF] at he <;> simp only [execOp] <;> first | (cases he; done) | skip
  case move x =>
    simp only [pureE, Option.some.injEq, Prod.mk.injEq] at he
    obtain ⟨rfl, rfl⟩ := he
    exact ⟨_, _, w, h, rfl, .inl rfl, .refl h, m, hρ x⟩
  case assign x =>
    simp only [pureE, Option.some.injEq, Prod.mk.injEq] at he
    obtain ⟨rfl, rfl⟩ := he
    exact ⟨_, _, w, h, rfl, .inl rfl, .refl h, m, hρ x⟩
  case pick c a b =>
    split at he
    · rename_i t ht
      simp only [pureE, Option.some.injEq, Prod.mk.injEq] at he
      obtain ⟨rfl, rfl⟩ := he
      have hc := hρ c
      rw [ht] at hc
      simp only [RepA, RepD] at hc
      refine ⟨_, if t = true then ev a else ev b, w, h, ?_, .inl rfl, .refl h, m, ?_⟩
      · simp [hc, asBool]
      · cases t
        · exact hρ b
        · exact hρ a
    · cases he
  case alloc t =>
    split at he
    · rename_i ti hti
      split at he
      · rename_i z hz
        obtain ⟨n, rfl, hfree, rfl, rfl⟩ := newE_some he
        exact (allocE_sound m hti hz (hdst n rfl) (restr_eq hfree (by simp))).done
      · cases he
    · cases he
  case box t x =>
    split at he
    · rename_i hg
      obtain ⟨n, rfl, hfree, rfl, rfl⟩ := newE_some he
      exact (boxE_sound m (hρ x) hg (hdst n rfl) (restr_eq hfree (by simp))).done
    · cases he
  case build t ps =>
    have hr := RepAs_map hρ (ps.toList.map (·.2))
    obtain ⟨rfl, u, hu, ru⟩ := buildE_sound (w := w) (vs := ps.toList.map fun p => (p.1, ev p.2)) (by simp [List.map_map, Function.comp_def]) (by simpa [List.map_map, Function.comp_def] using hr) he
    refine Done.still m ?_ ru
    rw [← hu]
    congr 2
    apply Array.ext'
    simp
  case buildSlice t len ps =>
    have hr := RepAs_map hρ (ps.toList.map (·.2))
    have g := buildSliceE_sound m hdst (vs := ps.toList.map fun p => (p.1, ev p.2)) htl (by simp [List.map_map, Function.comp_def]) (by simpa [List.map_map, Function.comp_def] using hr) he
    have e : ps.map (fun x => (x.1, ev x.2)) = (ps.toList.map fun p => (p.1, ev p.2)).toArray := by apply Array.ext'; simp
    rw [← e] at g
    exact g.done
  case load t a =>
    split at he
    · rename_i ti hti
      obtain ⟨rfl, u, hu, ru⟩ := loadE_sound m hti (hρ a) he
      exact Done.still m hu ru
    · cases he
  case store t a x =>
    split at he
    · rename_i ti hti
      obtain ⟨rfl, w', hw, m'⟩ := storeE_sound m hti (hρ a) (hρ x) he
      exact ⟨.skip, undef, w', h, by simp [hw], .inr ⟨rfl, rfl⟩, .refl h, m', by simp [RepA]⟩
    · cases he
  case nilCheck x =>
    have hx := hρ x
    split at he
    · rename_i n i j hp
      simp only [pureE, Option.some.injEq, Prod.mk.injEq] at he
      obtain ⟨rfl, rfl⟩ := he
      rw [hp] at hx
      have hx' := hx
      simp only [RepA] at hx
      obtain ⟨l, h1, h2, h3⟩ := hx
      rw [h3] at hx' ⊢
      exact ⟨_, _, w, h, rfl, .inl rfl, .refl h, m, hx'⟩
    · rename_i cs hp
      simp only [pureE, Option.some.injEq, Prod.mk.injEq] at he
      obtain ⟨rfl, rfl⟩ := he
      rw [hp] at hx
      have hx' := hx
      simp only [RepA] at hx
      obtain ⟨b, o, h3, _⟩ := hx
      rw [h3] at hx' ⊢
      exact ⟨_, _, w, h, rfl, .inl rfl, .refl h, m, hx'⟩
    · cases he
  case binOp op t x y yt =>
    simp only [Option.map_eq_some_iff, Prod.mk.injEq] at he
    obtain ⟨v', hv, rfl, rfl⟩ := he
    obtain ⟨u, hu, ru⟩ := binE_sound (P := C.P) (w := w) (ox := x) (oy := y) (hρ x) (hρ y) hv
    exact Done.still m hu ru
  case unOp op t x =>
    simp only [Option.map_eq_some_iff, Prod.mk.injEq] at he
    obtain ⟨v', hv, rfl, rfl⟩ := he
    obtain ⟨u, hu, ru⟩ := unE_sound (P := C.P) (w := w) (hρ x) hv
    exact Done.still m hu ru
  case convert s d x =>
    simp only [Option.map_eq_some_iff, Prod.mk.injEq] at he
    obtain ⟨v', hv, rfl, rfl⟩ := he
    obtain ⟨u, hu, ru⟩ := convE_sound (w := w) (hρ x) hv
    exact Done.still m hu ru
  case makeFunc fn first caps =>
    cases fn <;> simp only at he <;> first | (cases he; done) | skip
    rename_i f
    split at he
    · rename_i h0
      simp only [pureE, Option.some.injEq, Prod.mk.injEq] at he
      obtain ⟨rfl, rfl⟩ := he
      have hf : first = #[] := Array.eq_empty_of_size_eq_zero h0
      subst hf
      refine Done.still m (u := .func (.func f) #[] (caps.map ev)) (by simp [Instr.makeFunc]) ?_
      simp only [RepA]
      exact ⟨caps.toList.map ev, by congr 1; apply Array.ext'; simp, RepAs_map hρ _⟩
    · cases he
  case makeSlice t l c => exact (makeSliceE_sound m hdst (hρ l) (hρ c) he).done
  case slice t x lo hi mx =>
    split at he
    · rename_i ti hti
      obtain ⟨rfl, u, hu, ru⟩ := sliceE_sound (w := w) hti (hρ x) (opt_rep hρ lo) (opt_rep hρ hi) (opt_rep hρ mx) he
      exact Done.still m hu ru
    · cases he
  case fieldAddr t x f =>
    split at he
    · rename_i ti hti
      obtain ⟨rfl, u, hu, ru⟩ := fieldAddrE_sound (w := w) hti (hρ x) he
      exact Done.still m hu ru
    · cases he
  case field t x f =>
    split at he
    · rename_i ti hti
      obtain ⟨rfl, u, hu, ru⟩ := fieldE_sound (w := w) hti (hρ x) he
      exact Done.still m hu ru
    · cases he
  case indexAddr t x ix =>
    split at he
    · rename_i ti i hti hi
      obtain ⟨k, hk⟩ := intOfA_rep (hρ ix) hi
      obtain ⟨rfl, u, hu, ru⟩ := indexAddrE_sound (w := w) (k := k) hti (hρ x) he
      rw [hk]
      exact Done.still m hu ru
    · cases he
  case index t x ix =>
    split at he
    · rename_i ti i hti hi
      obtain ⟨k, hk⟩ := intOfA_rep (hρ ix) hi
      obtain ⟨rfl, u, hu, ru⟩ := indexE_sound (w := w) (k := k) hti (hρ x) he
      rw [hk]
      exact Done.still m hu ru
    · cases he
  case extract x i =>
    have hx := hρ x
    split at he
    · rename_i vs hv
      simp only [Option.map_eq_some_iff, Prod.mk.injEq] at he
      obtain ⟨v', hv', rfl, rfl⟩ := he
      rw [hv] at hx
      simp only [RepA] at hx
      obtain ⟨arr, hx, hr⟩ := hx
      obtain ⟨u, hu, ru⟩ := (RepAs_iff.1 hr).2 i _ hv'
      rw [hx]
      exact Done.still m (by simp [Instr.extract, hu]) ru
    · cases he
  case range t x =>
    split at he
    · rename_i ti hti
      exact (rangeE_sound m hti hdst (hρ x) he).done
    · cases he
  case next x isS =>
    split at he
    · rename_i hs
      subst hs
      exact (nextE_sound m (hρ x) htl he).done
    · cases he
  case call c =>
    obtain ⟨callee, args, argTypes⟩ := c
    unfold builtinE at he
    simp only at he
    split at he
    · split at he
      · rename_i x t ha ht
        split at he
        · rename_i ti hti
          simp only [Option.map_eq_some_iff, Prod.mk.injEq] at he
          obtain ⟨v', hv, rfl, rfl⟩ := he
          have ha' : args = #[x] := by apply Array.ext'; simpa using ha
          have ht' : argTypes = #[t] := by apply Array.ext'; simpa using ht
          subst ha' ht'
          obtain ⟨u, hu, ru⟩ := lenE_sound (P := C.P) (w := w) (ty := type) hti (hρ x) hv
          have g := Done.still m hu ru
          simpa [resolve, invoke, builtin] using g
        · cases he
      · cases he
    · split at he
      · rename_i s x t t' ha ht
        split at he
        · rename_i htt
          subst htt
          split at he
          · rename_i sz1 by1 z1 e hti
            obtain ⟨i, d, h1, h2, h3⟩ := tinf_some hti
            have hd := kind_slice (P := C.P) (d := d) (by injection h3 with _ _ _ h4; exact h4.symm)
            subst hd
            have ha' : args = #[s, x] := by apply Array.ext'; simpa using ha
            have ht' : argTypes = #[t', t'] := by apply Array.ext'; simpa using ht
            subst ha' ht'
            have g := appendE_sound (ty := type) m hdst h2 (hρ s) (hρ x) he
            simpa [resolve, invoke, builtin] using g.done
          · cases he
        · cases he
      · cases he
    · split at he
      · rename_i x y ha
        split at he
        · rename_i k a k' b hx hy
          split at he
          · rename_i hk
            subst hk
            simp only [pureE, Option.some.injEq, Prod.mk.injEq] at he
            obtain ⟨rfl, rfl⟩ := he
            have ha' : args = #[x, y] := by apply Array.ext'; simpa using ha
            subst ha'
            have h1 := hρ x
            have h2 := hρ y
            rw [hx] at h1
            rw [hy] at h2
            simp only [RepA, RepD] at h1 h2
            have g := Done.still m (s := Builtin.max_ argTypes type (#[x, y].map ev)) (u := .int k' (if b > a then b else a)) (by simp [Builtin.max_, Builtin.max2, h1, h2]) (show RepA h (.int k' (if b > a then b else a)) (.d (.int k' (if b > a then b else a))) by simp only [RepA, RepD])
            simpa [resolve, invoke, builtin] using g
          · cases he
        · cases he
      · cases he
    · split at he
      · rename_i x y ha
        split at he
        · rename_i k a k' b hx hy
          split at he
          · rename_i hk
            subst hk
            simp only [pureE, Option.some.injEq, Prod.mk.injEq] at he
            obtain ⟨rfl, rfl⟩ := he
            have ha' : args = #[x, y] := by apply Array.ext'; simpa using ha
            subst ha'
            have h1 := hρ x
            have h2 := hρ y
            rw [hx] at h1
            rw [hy] at h2
            simp only [RepA, RepD] at h1 h2
            have g := Done.still m (s := Builtin.min_ argTypes type (#[x, y].map ev)) (u := .int k' (if b < a then b else a)) (by simp [Builtin.min_, Builtin.min2, h1, h2]) (show RepA h (.int k' (if b < a then b else a)) (.d (.int k' (if b < a then b else a))) by simp only [RepA, RepD])
            simpa [resolve, invoke, builtin] using g
          · cases he
        · cases he
      · cases he
    · cases he
end Go.Ab
