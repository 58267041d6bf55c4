/- How an expression is read. -/
import Derived.Test.YtnbbnkmaoaogeaaEsame
import Derived.Test.YtnbbnkmaoaogeaaRwsRow
set_option linter.all false
namespace Go.Proofs.Ytnbbnkmaoaogeaa
open Go.ChangeShapes Go.WideShapes Go.ChangeAt Go.RowKit Go.Ab Go.Proofs.Try

theorem fitsAll_of : ∀ l : List Ex, (∀ e ∈ l, e.fits) → fitsAll l
  | [], _ => by rw [fitsAll]; trivial
  | e :: es, h => by rw [fitsAll]; exact ⟨h e List.mem_cons_self, fitsAll_of es fun x hx => h x (List.mem_cons_of_mem _ hx)⟩
theorem rngAll_of : ∀ l : List Ex, (∀ e ∈ l, e.rng) → rngAll l
  | [], _ => by rw [rngAll]; trivial
  | e :: es, h => by rw [rngAll]; exact ⟨h e List.mem_cons_self, rngAll_of es fun x hx => h x (List.mem_cons_of_mem _ hx)⟩
theorem i64_of_wf {x : Int} (h : (Lit.int .i64 x).wf = true) : -9223372036854775808 ≤ x ∧ x ≤ 9223372036854775807 := by
  simp [Lit.wf, IntKind.min, IntKind.max, IntKind.signed, IntKind.bits] at h
  omega

theorem ex_read {H : Type} {enc : TypeId × Value → H} {W : World} {base : Nat} {spare : Nat → Bool} {held : Bool} : ∀ (n : Nat) (cs : List Value) (x : DataW H × List MemPlace), DataW.trod enc Try.prog W base spare held n 24 cs = some x → cs.length = 6 →
    ∃ e : Ex, (e.fits ∧ e.rng) ∧ ∀ (j : Nat) (c : D), e.c[j]? = some c → ∃ v, cs[j]? = some v ∧ RepD (memOf W) v c := by
  intro n
  induction n using Nat.strongRecOn with
  | _ n ih =>
  intro cs x h hc
  obtain ⟨c0, c1, c2, c3, c4, c5, rfl⟩ : ∃ c0 c1 c2 c3 c4 c5, cs = [c0, c1, c2, c3, c4, c5] := by
    match cs, hc with
    | [c0, c1, c2, c3, c4, c5], _ => exact ⟨c0, c1, c2, c3, c4, c5, rfl⟩
  obtain ⟨ys, n', hn', _, _, hyl, hf⟩ := DataW.trod_struct Try.underlying24 h
  have one : ∀ t, (Try.prog.cellsOf t == 1) = true → Try.prog.cellsOf t = 1 := fun t h => by simpa using h
  have h0 : DataW.trod enc Try.prog W base spare held n' 3 (([c0, c1, c2, c3, c4, c5].drop 0).take (Try.prog.cellsOf 3)) = ys[0]? := hf 0 _ rfl
  have h1 : DataW.trod enc Try.prog W base spare held n' 3 (([c0, c1, c2, c3, c4, c5].drop 1).take (Try.prog.cellsOf 3)) = ys[1]? := hf 1 _ rfl
  have h2 : DataW.trod enc Try.prog W base spare held n' 2 (([c0, c1, c2, c3, c4, c5].drop 2).take (Try.prog.cellsOf 2)) = ys[2]? := hf 2 _ rfl
  have h3 : DataW.trod enc Try.prog W base spare held n' 9 (([c0, c1, c2, c3, c4, c5].drop 3).take (Try.prog.cellsOf 9)) = ys[3]? := hf 3 _ rfl
  have h4 : DataW.trod enc Try.prog W base spare held n' 3 (([c0, c1, c2, c3, c4, c5].drop 4).take (Try.prog.cellsOf 3)) = ys[4]? := hf 4 _ rfl
  have h5 : DataW.trod enc Try.prog W base spare held n' 22 (([c0, c1, c2, c3, c4, c5].drop 5).take (Try.prog.cellsOf 22)) = ys[5]? := hf 5 _ rfl
  simp only [one 3 (by kernel_rfl), one 2 (by kernel_rfl), one 9 (by kernel_rfl), one 22 (by kernel_rfl), List.drop_zero, List.drop_succ_cons, List.take_succ_cons, List.take_zero] at h0 h1 h2 h3 h4 h5
  have hl : ys.length = 6 := hyl
  have yy : ∀ i (hi : i < 6), ys[i]? = some (ys[i]'(by omega)) := fun i hi => List.getElem?_eq_getElem _
  obtain ⟨a0, e0, _, _⟩ := DataW.trod_int (k := .i64) (by kernel_rfl) (h0.trans (yy 0 (by omega)))
  obtain ⟨a1, e1, _, _⟩ := DataW.trod_int (k := .i64) (by kernel_rfl) (h1.trans (yy 1 (by omega)))
  obtain ⟨a2, e2, _, _⟩ := DataW.trod_int (k := .i64) (by kernel_rfl) (h2.trans (yy 2 (by omega)))
  obtain ⟨a3, e3, _, _⟩ := DataW.trod_string (by kernel_rfl) (h3.trans (yy 3 (by omega)))
  obtain ⟨a4, e4, _, w4⟩ := DataW.trod_int (k := .i64) (by kernel_rfl) (h4.trans (yy 4 (by omega)))
  simp only [List.cons.injEq, and_true] at e0 e1 e2 e3 e4
  subst e0 e1 e2 e3 e4
  have w4' := i64_of_wf w4
  have key : ∃ l : List Ex, (l.length ≤ 9223372036854775807 ∧ (∀ e ∈ l, e.fits ∧ e.rng)) ∧ RepD (memOf W) c5 (.sl (l.map Ex.c)) := by
    rcases DataW.trod_slice (e := 24) (by kernel_rfl) (h5.trans (yy 5 (by omega))) with ⟨hc, _⟩ | ⟨a, len, cap, elems, rest, n2, hn2, hc, _, _, hlc, hcm, hel, hi, _, _⟩
    · simp only [List.cons.injEq, and_true] at hc
      subst hc
      exact ⟨[], ⟨by simp, by simp⟩, by simp only [RepD]; exact ⟨none, 0, rfl, Nat.le_refl _, .inl rfl⟩⟩
    · simp only [List.cons.injEq, and_true] at hc
      subst hc
      have hsz : Try.prog.cellsOf 24 = 6 := by
        have : (Try.prog.cellsOf 24 == 6) = true := by kernel_rfl
        simpa using this
      obtain ⟨l, hll, hr⟩ := sl_rep (w := W) (a := a) (len := len) (cap := cap) (sz := 6) (α := { e : Ex // e.fits ∧ e.rng }) (fun e => e.1.c) hlc (fun u => Ex.clen u.1) (by decide) fun i hlt => by
        have hi' := hi i hlt
        rw [List.getElem?_eq_getElem (by omega)] at hi'
        rw [Option.bind_eq_some_iff] at hi'
        obtain ⟨cs, hcs, ht⟩ := hi'
        rw [hsz] at hcs
        obtain ⟨_, hcl, hat⟩ := World.cells?_some hcs
        obtain ⟨e, he, hu⟩ := ih n2 (by omega) cs _ ht hcl
        refine ⟨⟨e, he⟩, fun j c hj => ?_⟩
        obtain ⟨v, hv, hr⟩ := hu j c hj
        refine ⟨v, ?_, hr⟩
        have hj6 : j < 6 := by have := (List.getElem?_eq_some_iff.1 hj).1; rw [Ex.clen] at this; exact this
        rw [← Go.Deep.add_add, hat j hj6, hv]
      refine ⟨l.map (·.1), ⟨?_, ?_⟩, by rw [List.map_map]; exact hr⟩
      · simp only [maxLen] at hcm
        simp [hll]; omega
      · intro e he
        obtain ⟨u, _, rfl⟩ := List.mem_map.1 he
        exact u.2
  obtain ⟨l, ⟨hl1, hl2⟩, hr⟩ := key
  refine ⟨.mk a0 a1 a2 a3.data.toList a4 l, ⟨?_, ?_⟩, fun j c hc => ?_⟩
  · rw [Ex.fits]; exact ⟨hl1, fitsAll_of l fun e he => (hl2 e he).1⟩
  · rw [Ex.rng]; exact ⟨w4'.1, w4'.2, rngAll_of l fun e he => (hl2 e he).2⟩
  · rw [Ex.c, kidsC_map] at hc
    match j, hc with
    | 0, hc => cases hc; exact ⟨_, rfl, rfl⟩
    | 1, hc => cases hc; exact ⟨_, rfl, rfl⟩
    | 2, hc => cases hc; exact ⟨_, rfl, rfl⟩
    | 3, hc => cases hc; exact ⟨_, rfl, by simp [RepD]⟩
    | 4, hc => cases hc; exact ⟨_, rfl, rfl⟩
    | 5, hc => cases hc; exact ⟨_, rfl, hr⟩
end Go.Proofs.Ytnbbnkmaoaogeaa
