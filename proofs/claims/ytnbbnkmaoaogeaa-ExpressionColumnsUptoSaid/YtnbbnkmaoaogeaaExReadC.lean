/- How an expression is read, and how many nodes it has. -/
import Derived.Test.YtnbbnkmaoaogeaaClw
import Derived.Test.YtnbbnkmaoaogeaaAbB
import Derived.Deep.Slices
import Derived.Lib.SmallJoins
import Derived.ChangeArms
import Derived.Test.YtnbbnkmaoaogeaaRows
import Derived.Test.YtnbbnkmaoaogeaaChecked
set_option linter.all false
namespace Go.Proofs.Ytnbbnkmaoaogeaa
open Go.ChangeShapes Go.WideShapes Go.ChangeAt Go.RowKit Go.Ab Go.Proofs.Try
set_option maxRecDepth 100000
theorem own : ownKnob Try.prog.godebug = none := by kernel_rfl
theorem laidOut : laidOutB Try.prog = true := by kernel_rfl

theorem fitsAll_of : ∀ l : List Ex, (∀ e ∈ l, e.fits) → fitsAll l
  | [], _ => by rw [fitsAll]; trivial
  | e :: es, h => by rw [fitsAll]; exact ⟨h e List.mem_cons_self, fitsAll_of es fun x hx => h x (List.mem_cons_of_mem _ hx)⟩
theorem rngAll_of : ∀ l : List Ex, (∀ e ∈ l, e.rng) → rngAll l
  | [], _ => by rw [rngAll]; trivial
  | e :: es, h => by rw [rngAll]; exact ⟨h e List.mem_cons_self, rngAll_of es fun x hx => h x (List.mem_cons_of_mem _ hx)⟩
theorem nodesAll_of {H : Type} : ∀ (l : List Ex) (ds : List (DataW H)), l.length = ds.length → (∀ (i : Nat) (e : Ex) (d : DataW H), l[i]? = some e → ds[i]? = some d → e.nodes ≤ Rows.uptoBulk d) → nodesAll l ≤ Rows.uptoBulkAll ds
  | [], _, _, _ => by rw [nodesAll]; omega
  | e :: es, [], h, _ => by cases h
  | e :: es, d :: ds, h, hb => by
    have h1 := hb 0 e d rfl rfl
    have h2 := nodesAll_of es ds (by simpa using h) fun i x y hx hy => hb (i + 1) x y (by simpa using hx) (by simpa using hy)
    rw [nodesAll, Rows.uptoBulkAll]
    omega
theorem bulk_part {H : Type} {d : DataW H} : ∀ {l : List (DataW H)} {i : Nat}, l[i]? = some d → Rows.uptoBulk d ≤ Rows.uptoBulkAll l
  | [], i, h => by cases h
  | x :: l, 0, h => by
    cases h
    rw [Rows.uptoBulkAll]; omega
  | x :: l, i + 1, h => by
    have := bulk_part (l := l) (i := i) h
    rw [Rows.uptoBulkAll]; omega
theorem i64_of_wf {x : Int} (h : (Lit.int .i64 x).wf = true) : -9223372036854775808 ≤ x ∧ x ≤ 9223372036854775807 := by
  simp [Lit.wf, IntKind.min, IntKind.max, IntKind.signed, IntKind.bits] at h
  omega

/-- A slice that is read: as data, and what is known of each element. -/
theorem sl_repR {w : World} {a : Addr} {len cap sz : Nat} {α : Type} (f : α → List D) (R : Nat → α → Prop) (hl : len ≤ cap) (hsz : ∀ u, (f u).length = sz) (hsz0 : 0 < sz)
    (hi : ∀ i, i < len → ∃ u : α, R i u ∧ ∀ (j : Nat) (c : D), (f u)[j]? = some c → ∃ v, w.cell? (a.add (i * sz + j)) = some v ∧ RepD (memOf w) v c) :
    ∃ l : List α, l.length = len ∧ (∀ i u, l[i]? = some u → R i u) ∧ RepD (memOf w) (.slice (some a) len cap) (.sl (l.map f)) := by
  obtain ⟨l, h1, h2⟩ := choose_list hi
  refine ⟨l, h1, fun i u e => (h2 i u e).1, ?_⟩
  simp only [RepD]
  refine ⟨some a, cap, by simp [h1], by simp [h1]; exact hl, ?_⟩
  by_cases h0 : l = []
  · left; simp [h0]
  · right
    have hpos : 0 < l.length := List.length_pos_iff.2 h0
    have hsp : a.spot = none := by
      have hg : l[0]? = some l[0] := List.getElem?_eq_getElem hpos
      obtain ⟨v, hv, _⟩ := (h2 0 _ hg).2 0 _ (List.getElem?_eq_getElem (by rw [hsz]; exact hsz0))
      have := cell_spot hv
      simpa [Addr.add] using this
    obtain ⟨b, o, sp⟩ := a
    simp only at hsp
    subst hsp
    refine ⟨b, o, sz, rfl, RepEls_iff.2 fun i x hx => ?_⟩
    rw [List.getElem?_map] at hx
    cases hg : l[i]? with
    | none => rw [hg] at hx; cases hx
    | some u =>
      rw [hg] at hx
      simp only [Option.map_some, Option.some.injEq] at hx
      subst hx
      refine ⟨hsz u, RepCells_iff.2 fun j c hc => ?_⟩
      obtain ⟨v, hv, hr⟩ := (h2 i u hg).2 j c hc
      refine ⟨v, ?_, hr⟩
      simp only [memOf, Addr.add] at hv ⊢
      rw [Nat.add_assoc]
      split at hv
      · rename_i e0; rw [e0]; exact hv
      · exact hv
theorem ex_read {H : Type} {enc : TypeId × Value → H} {W : World} {base : Nat} {spare : Nat → Bool} {held : Bool} : ∀ (n : Nat) (cs : List Value) (x : DataW H × List MemPlace), DataW.trod enc Try.prog W base spare held n 24 cs = some x → cs.length = 6 →
    ∃ e : Ex, (e.fits ∧ e.rng ∧ e.nodes ≤ Rows.uptoBulk x.1) ∧ ∀ (j : Nat) (c : D), e.c[j]? = some c → ∃ v, cs[j]? = some v ∧ RepD (memOf W) v c := by
  intro n
  induction n using Nat.strongRecOn with
  | _ n ih =>
  intro cs x h hc
  obtain ⟨c0, c1, c2, c3, c4, c5, rfl⟩ : ∃ c0 c1 c2 c3 c4 c5, cs = [c0, c1, c2, c3, c4, c5] := by
    match cs, hc with
    | [c0, c1, c2, c3, c4, c5], _ => exact ⟨c0, c1, c2, c3, c4, c5, rfl⟩
  obtain ⟨ys, n', hn', hx, _, hyl, hf⟩ := DataW.trod_struct Try.underlying24 h
  have one : ∀ t, (Try.prog.cellsOf t == 1) = true → Try.prog.cellsOf t = 1 := fun t h => by simpa using h
  have h0 : DataW.trod enc Try.prog W base spare held n' 3 (([c0, c1, c2, c3, c4, c5].drop 0).take (Try.prog.cellsOf 3)) = ys[0]? := hf 0 _ rfl
  have h1 : DataW.trod enc Try.prog W base spare held n' 3 (([c0, c1, c2, c3, c4, c5].drop 1).take (Try.prog.cellsOf 3)) = ys[1]? := hf 1 _ rfl
  have h2 : DataW.trod enc Try.prog W base spare held n' 2 (([c0, c1, c2, c3, c4, c5].drop 2).take (Try.prog.cellsOf 2)) = ys[2]? := hf 2 _ rfl
  have h3 : DataW.trod enc Try.prog W base spare held n' 9 (([c0, c1, c2, c3, c4, c5].drop 3).take (Try.prog.cellsOf 9)) = ys[3]? := hf 3 _ rfl
  have h4 : DataW.trod enc Try.prog W base spare held n' 3 (([c0, c1, c2, c3, c4, c5].drop 4).take (Try.prog.cellsOf 3)) = ys[4]? := hf 4 _ rfl
  have h5 : DataW.trod enc Try.prog W base spare held n' 22 (([c0, c1, c2, c3, c4, c5].drop 5).take (Try.prog.cellsOf 22)) = ys[5]? := hf 5 _ rfl
  simp only [one 3 (by kernel_rfl), one 2 (by kernel_rfl), one 9 (by kernel_rfl), one 22 (by kernel_rfl), List.drop_zero, List.drop_succ_cons, List.take_succ_cons, List.take_zero] at h0 h1 h2 h3 h4 h5
  have hl : ys.length = 6 := hyl
  have yy : ∀ i (hi : i < 6), ys[i]? = some (ys[i]'(by omega)) := fun i hi => List.getElem?_eq_getElem _
  obtain ⟨a0, e0, _, _⟩ := DataW.trod_int (k := .i64) (by kernel_rfl) (h0.trans (yy 0 (by omega)))
  obtain ⟨a1, e1, _, _⟩ := DataW.trod_int (k := .i64) (by kernel_rfl) (h1.trans (yy 1 (by omega)))
  obtain ⟨a2, e2, _, _⟩ := DataW.trod_int (k := .i64) (by kernel_rfl) (h2.trans (yy 2 (by omega)))
  obtain ⟨a3, e3, _, _⟩ := DataW.trod_string (by kernel_rfl) (h3.trans (yy 3 (by omega)))
  obtain ⟨a4, e4, _, w4⟩ := DataW.trod_int (k := .i64) (by kernel_rfl) (h4.trans (yy 4 (by omega)))
  simp only [List.cons.injEq, and_true] at e0 e1 e2 e3 e4
  subst e0 e1 e2 e3 e4
  have w4' := i64_of_wf w4
  have key : ∃ l : List Ex, (l.length ≤ 9223372036854775807 ∧ (∀ e ∈ l, e.fits ∧ e.rng) ∧ nodesAll l + 1 ≤ Rows.uptoBulk (ys[5]'(by omega)).1) ∧ RepD (memOf W) c5 (.sl (l.map Ex.c)) := by
    rcases DataW.trod_slice (e := 24) (by kernel_rfl) (h5.trans (yy 5 (by omega))) with ⟨hc, hx5⟩ | ⟨a, len, cap, elems, rest, n2, hn2, hc, hx5, _, hlc, hcm, hel, hi, _, _⟩
    · simp only [List.cons.injEq, and_true] at hc
      subst hc
      exact ⟨[], ⟨by simp, by simp, by rw [hx5]; simp [nodesAll, Rows.uptoBulk]⟩, by simp only [RepD]; exact ⟨none, 0, rfl, Nat.le_refl _, .inl rfl⟩⟩
    · simp only [List.cons.injEq, and_true] at hc
      subst hc
      have hsz : Try.prog.cellsOf 24 = 6 := by
        have : (Try.prog.cellsOf 24 == 6) = true := by kernel_rfl
        simpa using this
      obtain ⟨l, hll, hR, hr⟩ := sl_repR (w := W) (a := a) (len := len) (cap := cap) (sz := 6) (α := Ex) Ex.c (fun i e => (e.fits ∧ e.rng) ∧ ∀ d, elems[i]? = some d → e.nodes ≤ Rows.uptoBulk d.1) hlc Ex.clen (by decide) fun i hlt => by
        have hi' := hi i hlt
        have hg : elems[i]? = some (elems[i]'(by omega)) := List.getElem?_eq_getElem _
        rw [hg] at hi'
        rw [Option.bind_eq_some_iff] at hi'
        obtain ⟨cs, hcs, ht⟩ := hi'
        rw [hsz] at hcs
        obtain ⟨_, hcl, hat⟩ := World.cells?_some hcs
        obtain ⟨e, he, hu⟩ := ih n2 (by omega) cs _ ht hcl
        refine ⟨e, ⟨⟨he.1, he.2.1⟩, fun d hd => by rw [hg, Option.some.injEq] at hd; subst hd; exact he.2.2⟩, fun j c hj => ?_⟩
        obtain ⟨v, hv, hr⟩ := hu j c hj
        refine ⟨v, ?_, hr⟩
        have hj6 : j < 6 := by have := (List.getElem?_eq_some_iff.1 hj).1; rw [Ex.clen] at this; exact this
        rw [← Go.Deep.add_add, hat j hj6, hv]
      refine ⟨l, ⟨?_, ?_, ?_⟩, hr⟩
      · simp only [maxLen] at hcm
        omega
      · intro e he
        obtain ⟨i, hi⟩ := List.mem_iff_getElem?.1 he
        exact (hR i e hi).1
      · have h1 := nodesAll_of l (elems.map (·.1)) (by rw [List.length_map]; omega) fun i e d hx hy => by
          rw [List.getElem?_map, Option.map_eq_some_iff] at hy
          obtain ⟨d0, hd0, rfl⟩ := hy
          exact (hR i e hx).2 d0 hd0
        rw [hx5]
        simp only [Rows.uptoBulk]
        omega
  obtain ⟨l, ⟨hl1, hl2, hl3⟩, hr⟩ := key
  refine ⟨.mk a0 a1 a2 a3.data.toList a4 l, ⟨?_, ?_, ?_⟩, fun j c hc => ?_⟩
  · rw [Ex.fits]; exact ⟨hl1, fitsAll_of l fun e he => (hl2 e he).1⟩
  · rw [Ex.rng]; exact ⟨w4'.1, w4'.2, rngAll_of l fun e he => (hl2 e he).2⟩
  · have h6 : (ys.map (·.1))[5]? = some (ys[5]'(by omega)).1 := by rw [List.getElem?_map, yy 5 (by omega)]; rfl
    have := bulk_part h6
    rw [Ex.nodes, hx]
    simp only [Rows.uptoBulk]
    omega
  · rw [Ex.c, kidsC_map] at hc
    match j, hc with
    | 0, hc => cases hc; exact ⟨_, rfl, rfl⟩
    | 1, hc => cases hc; exact ⟨_, rfl, rfl⟩
    | 2, hc => cases hc; exact ⟨_, rfl, rfl⟩
    | 3, hc => cases hc; exact ⟨_, rfl, by simp [RepD]⟩
    | 4, hc => cases hc; exact ⟨_, rfl, rfl⟩
    | 5, hc => cases hc; exact ⟨_, rfl, hr⟩
theorem ex_open {H : Type} {enc : TypeId × Value → H} {W : World} {base : Nat} {r : Reach} {b0 : Nat} {spare : Nat → Bool} {held : Bool} {v : Value} {d : DataW H} {p : List MemPlace}
    (hv : Value.okWide Try.prog W r b0 24 v) (h : DataW.Trod enc Try.prog W base spare held 24 v d p) :
    ∃ e : Ex, (e.fits ∧ e.rng ∧ e.nodes ≤ Rows.uptoBulk d) ∧ RepA ⟨memOf W, fun _ => none⟩ v e.a := by
  obtain ⟨cs, rfl, hsz⟩ := okWide_struct Try.underlying24 hv
  have hs : Try.prog.cellsOf 24 = 6 := by
    have : (Try.prog.cellsOf 24 == 6) = true := by kernel_rfl
    simpa using this
  obtain ⟨n, h⟩ := h
  have hl : cs.toList.length = 6 := by simpa [hs] using hsz
  obtain ⟨e, he, hu⟩ := ex_read n cs.toList _ h hl
  refine ⟨e, he, ?_⟩
  simp only [Ex.a, RepA]
  refine ⟨cs.toList, rfl, RepAs_map_d (by rw [hl, Ex.clen]) fun j c hj => hu j c hj⟩
end Go.Proofs.Ytnbbnkmaoaogeaa
