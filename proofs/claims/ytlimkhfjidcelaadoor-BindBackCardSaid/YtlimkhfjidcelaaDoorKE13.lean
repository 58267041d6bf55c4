import Derived.Test.YtlimkhfjidcelaaDoorKE1
import Derived.Test.YtlimkhfjidcelaaDoorKE0
import Derived.Test.YtlimkhfjidcelaaDoorAbB
import Derived.Lib.SmallJoins
import Derived.LaidMore
import Derived.Stop.Joined
import Derived.HandedShaped
import Derived.Shelf.Vars
import Derived.Test.YtlimkhfjidcelaaDoorRows
import Derived.Test.YtlimkhfjidcelaaDoorChecked
import Derived.Test.YtlimkhfjidcelaaDoorKE2
import Derived.Test.YtlimkhfjidcelaaDoorKE7
import Derived.Deep.Slices
set_option linter.all false
/- What the rows over terms and statements share: how they are read, and what the listed variables hold. -/
namespace Go.Proofs.YtlimkhfjidcelaaDoor
open Go.ChangeShapes Go.WideShapes Go.ChangeAt Go.RowKit Go.Ab Go.Proofs.Tryd
set_option maxRecDepth 100000

theorem own : ownKnob Tryd.prog.godebug = none := by kernel_rfl
theorem laidOut : laidOutB Tryd.prog = true := by kernel_rfl
theorem gSops : Tryd.prog.globalNamed "querylab/sql.operators" = some 1 := by kernel_rfl
theorem tSops : (Tryd.prog.globals[1]?).map (·.type) = some 181 := by kernel_rfl

theorem RepL_get {μ : Nat → Nat → Option Value} : ∀ {vs : List Value} {cs : List D}, RepL μ vs cs → ∀ (j : Nat) (c : D), cs[j]? = some c → ∃ v, vs[j]? = some v ∧ RepD μ v c
  | [], [], _, j, c, h => by simp at h
  | v :: vs, c0 :: cs, h, 0, c, e => by
    cases e
    exact ⟨v, rfl, h.1⟩
  | v :: vs, c0 :: cs, h, j + 1, c, e => by simpa using RepL_get h.2 j c (by simpa using e)
theorem RepL_as {μ : Nat → Nat → Option Value} {L : Nat → Option Go.Ab.Loc} : ∀ {vs : List Value} {cs : List D}, RepL μ vs cs → RepAs ⟨μ, L⟩ vs (cs.map AV.d)
  | [], [], _ => by simp [RepAs]
  | v :: vs, c :: cs, h => by
    rw [List.map_cons, RepAs]
    refine ⟨v, vs, rfl, ?_, RepL_as h.2⟩
    simp only [RepA]
    exact h.1

/-- A slice that is read, its elements read one by one. -/
theorem slice_read {α H : Type} {enc : TypeId × Value → H} {W : World} {base : Nat} {spare : Nat → Bool} {held : Bool} (f : α → List D) (Pr : α → Prop) {sz e t n : Nat} {c : Value} {x : DataW H × List MemPlace}
    (hu : Tryd.prog.underlying t = some (.slice e)) (hcs : Tryd.prog.cellsOf e = sz) (hf : ∀ u, (f u).length = sz) (h0 : 0 < sz) (h : DataW.trod enc Tryd.prog W base spare held n t [c] = some x)
    (elem : ∀ n2, n2 < n → ∀ cs y, DataW.trod enc Tryd.prog W base spare held n2 e cs = some y → cs.length = sz → ∃ u, Pr u ∧ RepL (memOf W) cs (f u)) :
    ∃ l : List α, l.length ≤ 9223372036854775807 ∧ (∀ u ∈ l, Pr u) ∧ RepD (memOf W) c (.sl (l.map f)) := by
  rcases DataW.trod_slice (e := e) hu h with ⟨hc, _⟩ | ⟨a, len, cap, elems, rest, n2, hn2, hc, _, _, hlc, hcm, hel, hi, _, _⟩
  · simp only [List.cons.injEq, and_true] at hc
    subst hc
    exact ⟨[], by simp, by simp, by simp only [RepD]; exact ⟨none, 0, rfl, Nat.le_refl _, .inl rfl⟩⟩
  · simp only [List.cons.injEq, and_true] at hc
    subst hc
    obtain ⟨l, hll, hr⟩ := sl_rep (w := W) (a := a) (len := len) (cap := cap) (sz := sz) (α := { u : α // Pr u }) (fun u => f u.1) hlc (fun u => hf u.1) h0 fun i hlt => by
      have hi' := hi i hlt
      rw [List.getElem?_eq_getElem (by omega)] at hi'
      rw [Option.bind_eq_some_iff] at hi'
      obtain ⟨cs, hcs', ht⟩ := hi'
      rw [hcs] at hcs'
      obtain ⟨_, hcl, hat⟩ := World.cells?_some hcs'
      obtain ⟨u, hu, hr⟩ := elem n2 (by omega) cs _ ht hcl
      refine ⟨⟨u, hu⟩, fun j c hj => ?_⟩
      obtain ⟨v, hv, hr⟩ := RepL_get hr j c hj
      refine ⟨v, ?_, hr⟩
      have hj6 : j < sz := by have := (List.getElem?_eq_some_iff.1 hj).1; rw [hf] at this; exact this
      rw [← Go.Deep.add_add, hat j hj6, hv]
    refine ⟨l.map (·.1), ?_, ?_, by rw [List.map_map]; exact hr⟩
    · simp only [maxLen] at hcm
      simp [hll]; omega
    · intro u hu
      obtain ⟨v, _, rfl⟩ := List.mem_map.1 hu
      exact v.2
theorem int_read {H : Type} {enc : TypeId × Value → H} {W : World} {base : Nat} {spare : Nat → Bool} {held : Bool} {n t : Nat} {c : Value} {x : DataW H × List MemPlace} (hu : Tryd.prog.underlying t = some (.int .i64)) (h : DataW.trod enc Tryd.prog W base spare held n t [c] = some x) :
    ∃ k : Int, c = .int .i64 k := by
  obtain ⟨k, e, _, _⟩ := DataW.trod_int (k := .i64) hu h
  simp only [List.cons.injEq, and_true] at e
  exact ⟨k, e⟩
theorem str_read {H : Type} {enc : TypeId × Value → H} {W : World} {base : Nat} {spare : Nat → Bool} {held : Bool} {n t : Nat} {c : Value} {x : DataW H × List MemPlace} (hu : Tryd.prog.underlying t = some .string) (h : DataW.trod enc Tryd.prog W base spare held n t [c] = some x) :
    ∃ s : List UInt8, RepD (memOf W) c (.str s) := by
  obtain ⟨k, e, _, _⟩ := DataW.trod_string hu h
  simp only [List.cons.injEq, and_true] at e
  subst e
  exact ⟨k.data.toList, by simp [RepD]⟩
theorem bool_read {H : Type} {enc : TypeId × Value → H} {W : World} {base : Nat} {spare : Nat → Bool} {held : Bool} {n t : Nat} {c : Value} {x : DataW H × List MemPlace} (hu : Tryd.prog.underlying t = some .bool) (h : DataW.trod enc Tryd.prog W base spare held n t [c] = some x) :
    ∃ b : Bool, c = .bool b := by
  obtain ⟨k, e, _, _⟩ := DataW.trod_bool hu h
  simp only [List.cons.injEq, and_true] at e
  exact ⟨k, e⟩
theorem tmsFits_of : ∀ l : List Tm, (∀ e ∈ l, e.fits) → tmsFits l
  | [], _ => by rw [tmsFits]; trivial
  | e :: es, h => by rw [tmsFits]; exact ⟨h e List.mem_cons_self, tmsFits_of es fun x hx => h x (List.mem_cons_of_mem _ hx)⟩
theorem smsFits_of : ∀ l : List Sm, (∀ e ∈ l, e.fits) → smsFits l
  | [], _ => by rw [smsFits]; trivial
  | e :: es, h => by rw [smsFits]; exact ⟨h e List.mem_cons_self, smsFits_of es fun x hx => h x (List.mem_cons_of_mem _ hx)⟩
theorem josFits_of : ∀ l : List Jo, (∀ e ∈ l, e.fits) → josFits l
  | [], _ => by rw [josFits]; trivial
  | e :: es, h => by rw [josFits]; exact ⟨h e List.mem_cons_self, josFits_of es fun x hx => h x (List.mem_cons_of_mem _ hx)⟩
theorem cells1 {t : Nat} (h : (Tryd.prog.cellsOf t == 1) = true) : Tryd.prog.cellsOf t = 1 := by simpa using h
theorem cellsTm : Tryd.prog.cellsOf 31 = 6 := by
  have : (Tryd.prog.cellsOf 31 == 6) = true := by kernel_rfl
  simpa using this
theorem cellsIt : Tryd.prog.cellsOf 80 = 7 := by
  have : (Tryd.prog.cellsOf 80 == 7) = true := by kernel_rfl
  simpa using this
theorem cellsJo : Tryd.prog.cellsOf 83 = 5 := by
  have : (Tryd.prog.cellsOf 83 == 5) = true := by kernel_rfl
  simpa using this
theorem cellsSo : Tryd.prog.cellsOf 25 = 3 := by
  have : (Tryd.prog.cellsOf 25 == 3) = true := by kernel_rfl
  simpa using this
theorem cellsSm : Tryd.prog.cellsOf 29 = 13 := by
  have : (Tryd.prog.cellsOf 29 == 13) = true := by kernel_rfl
  simpa using this

theorem tm_read {H : Type} {enc : TypeId × Value → H} {W : World} {base : Nat} {spare : Nat → Bool} {held : Bool} : ∀ (n : Nat) (cs : List Value) (x : DataW H × List MemPlace), DataW.trod enc Tryd.prog W base spare held n 31 cs = some x → cs.length = 6 →
    ∃ e : Tm, e.fits ∧ RepL (memOf W) cs e.c := by
  intro n
  induction n using Nat.strongRecOn with
  | _ n ih =>
  intro cs x h hc
  obtain ⟨c0, c1, c2, c3, c4, c5, rfl⟩ : ∃ c0 c1 c2 c3 c4 c5, cs = [c0, c1, c2, c3, c4, c5] := by
    match cs, hc with
    | [c0, c1, c2, c3, c4, c5], _ => exact ⟨c0, c1, c2, c3, c4, c5, rfl⟩
  obtain ⟨ys, n', hn', _, _, hyl, hf⟩ := DataW.trod_struct Tryd.underlying31 h
  have hl : ys.length = 6 := hyl
  have yy : ∀ i (hi : i < 6), ys[i]? = some (ys[i]'(by omega)) := fun i hi => List.getElem?_eq_getElem _
  have h0 : DataW.trod enc Tryd.prog W base spare held n' 3 (([c0, c1, c2, c3, c4, c5].drop 0).take (Tryd.prog.cellsOf 3)) = ys[0]? := hf 0 _ rfl
  have h1 : DataW.trod enc Tryd.prog W base spare held n' 3 (([c0, c1, c2, c3, c4, c5].drop 1).take (Tryd.prog.cellsOf 3)) = ys[1]? := hf 1 _ rfl
  have h2 : DataW.trod enc Tryd.prog W base spare held n' 2 (([c0, c1, c2, c3, c4, c5].drop 2).take (Tryd.prog.cellsOf 2)) = ys[2]? := hf 2 _ rfl
  have h3 : DataW.trod enc Tryd.prog W base spare held n' 9 (([c0, c1, c2, c3, c4, c5].drop 3).take (Tryd.prog.cellsOf 9)) = ys[3]? := hf 3 _ rfl
  have h4 : DataW.trod enc Tryd.prog W base spare held n' 9 (([c0, c1, c2, c3, c4, c5].drop 4).take (Tryd.prog.cellsOf 9)) = ys[4]? := hf 4 _ rfl
  have h5 : DataW.trod enc Tryd.prog W base spare held n' 27 (([c0, c1, c2, c3, c4, c5].drop 5).take (Tryd.prog.cellsOf 27)) = ys[5]? := hf 5 _ rfl
  simp only [cells1 (t := 3) (by kernel_rfl), cells1 (t := 2) (by kernel_rfl), cells1 (t := 9) (by kernel_rfl), cells1 (t := 27) (by kernel_rfl), List.drop_zero, List.drop_succ_cons, List.take_succ_cons, List.take_zero] at h0 h1 h2 h3 h4 h5
  obtain ⟨a0, rfl⟩ := int_read (by kernel_rfl) (h0.trans (yy 0 (by omega)))
  obtain ⟨a1, rfl⟩ := int_read (by kernel_rfl) (h1.trans (yy 1 (by omega)))
  obtain ⟨a2, rfl⟩ := int_read (by kernel_rfl) (h2.trans (yy 2 (by omega)))
  obtain ⟨a3, r3⟩ := str_read (by kernel_rfl) (h3.trans (yy 3 (by omega)))
  obtain ⟨a4, r4⟩ := str_read (by kernel_rfl) (h4.trans (yy 4 (by omega)))
  obtain ⟨l, l1, l2, r5⟩ := slice_read Tm.c Tm.fits (by kernel_rfl) cellsTm Tm.clen (by decide) (h5.trans (yy 5 (by omega))) fun n2 hn2 cs y ht hcl => ih n2 (by omega) cs y ht hcl
  refine ⟨.mk a0 a1 a2 a3 a4 l, by rw [Tm.fits]; exact ⟨l1, tmsFits_of l l2⟩, ?_⟩
  rw [Tm.c, tmsC_map]
  exact ⟨by simp only [RepD], by simp only [RepD], by simp only [RepD], r3, r4, r5, trivial⟩
theorem it_read {H : Type} {enc : TypeId × Value → H} {W : World} {base : Nat} {spare : Nat → Bool} {held : Bool} {n : Nat} {cs : List Value} {x : DataW H × List MemPlace} (h : DataW.trod enc Tryd.prog W base spare held n 80 cs = some x) (hc : cs.length = 7) :
    ∃ e : It, e.t.fits ∧ RepL (memOf W) cs e.c := by
  obtain ⟨c0, c1, c2, c3, c4, c5, c6, rfl⟩ : ∃ c0 c1 c2 c3 c4 c5 c6, cs = [c0, c1, c2, c3, c4, c5, c6] := by
    match cs, hc with
    | [c0, c1, c2, c3, c4, c5, c6], _ => exact ⟨c0, c1, c2, c3, c4, c5, c6, rfl⟩
  obtain ⟨ys, n', hn', _, _, hyl, hf⟩ := DataW.trod_struct Tryd.underlying80 h
  have hl : ys.length = 2 := hyl
  have yy : ∀ i (hi : i < 2), ys[i]? = some (ys[i]'(by omega)) := fun i hi => List.getElem?_eq_getElem _
  have h0 : DataW.trod enc Tryd.prog W base spare held n' 31 (([c0, c1, c2, c3, c4, c5, c6].drop 0).take (Tryd.prog.cellsOf 31)) = ys[0]? := hf 0 _ rfl
  have h1 : DataW.trod enc Tryd.prog W base spare held n' 9 (([c0, c1, c2, c3, c4, c5, c6].drop 6).take (Tryd.prog.cellsOf 9)) = ys[1]? := hf 1 _ rfl
  simp only [cellsTm, cells1 (t := 9) (by kernel_rfl), List.drop_zero, List.drop_succ_cons, List.take_succ_cons, List.take_zero] at h0 h1
  obtain ⟨t, ft, rt⟩ := tm_read n' _ _ (h0.trans (yy 0 (by omega))) rfl
  obtain ⟨s, rs⟩ := str_read (by kernel_rfl) (h1.trans (yy 1 (by omega)))
  exact ⟨⟨t, s⟩, ft, RepL_append (a := [c0, c1, c2, c3, c4, c5]) (b := [c6]) (y := [Go.Ab.D.str s]) rt ⟨rs, trivial⟩⟩

theorem so_read {H : Type} {enc : TypeId × Value → H} {W : World} {base : Nat} {spare : Nat → Bool} {held : Bool} {n : Nat} {c0 c1 c2 : Value} {x : DataW H × List MemPlace}
    (ih : ∀ n2, n2 < n → ∀ cs y, DataW.trod enc Tryd.prog W base spare held n2 29 cs = some y → cs.length = 13 → ∃ u : Sm, u.fits ∧ RepL (memOf W) cs u.c)
    (h : DataW.trod enc Tryd.prog W base spare held n 25 [c0, c1, c2] = some x) :
    ∃ (t : List UInt8) (q : List Sm) (n : List UInt8), (q.length ≤ 9223372036854775807 ∧ smsFits q) ∧ RepD (memOf W) c0 (.str t) ∧ RepD (memOf W) c1 (.sl (q.map Sm.c)) ∧ RepD (memOf W) c2 (.str n) := by
  obtain ⟨ys, n', hn', _, _, hyl, hf⟩ := DataW.trod_struct Tryd.underlying25 h
  have hl : ys.length = 3 := hyl
  have yy : ∀ i (hi : i < 3), ys[i]? = some (ys[i]'(by omega)) := fun i hi => List.getElem?_eq_getElem _
  have h0 : DataW.trod enc Tryd.prog W base spare held n' 9 (([c0, c1, c2].drop 0).take (Tryd.prog.cellsOf 9)) = ys[0]? := hf 0 _ rfl
  have h1 : DataW.trod enc Tryd.prog W base spare held n' 23 (([c0, c1, c2].drop 1).take (Tryd.prog.cellsOf 23)) = ys[1]? := hf 1 _ rfl
  have h2 : DataW.trod enc Tryd.prog W base spare held n' 9 (([c0, c1, c2].drop 2).take (Tryd.prog.cellsOf 9)) = ys[2]? := hf 2 _ rfl
  simp only [cells1 (t := 9) (by kernel_rfl), cells1 (t := 23) (by kernel_rfl), List.drop_zero, List.drop_succ_cons, List.take_succ_cons, List.take_zero] at h0 h1 h2
  obtain ⟨a0, r0⟩ := str_read (by kernel_rfl) (h0.trans (yy 0 (by omega)))
  obtain ⟨l, l1, l2, r1⟩ := slice_read Sm.c Sm.fits (by kernel_rfl) cellsSm Sm.clen (by decide) (h1.trans (yy 1 (by omega))) fun n2 hn2 cs y ht hcl => ih n2 (by omega) cs y ht hcl
  obtain ⟨a2, r2⟩ := str_read (by kernel_rfl) (h2.trans (yy 2 (by omega)))
  exact ⟨a0, l, a2, ⟨l1, smsFits_of l l2⟩, r0, r1, r2⟩
theorem jo_read {H : Type} {enc : TypeId × Value → H} {W : World} {base : Nat} {spare : Nat → Bool} {held : Bool} {n : Nat} {cs : List Value} {x : DataW H × List MemPlace}
    (ih : ∀ n2, n2 < n → ∀ cs y, DataW.trod enc Tryd.prog W base spare held n2 29 cs = some y → cs.length = 13 → ∃ u : Sm, u.fits ∧ RepL (memOf W) cs u.c)
    (h : DataW.trod enc Tryd.prog W base spare held n 83 cs = some x) (hc : cs.length = 5) : ∃ e : Jo, e.fits ∧ RepL (memOf W) cs e.c := by
  obtain ⟨c0, c1, c2, c3, c4, rfl⟩ : ∃ c0 c1 c2 c3 c4, cs = [c0, c1, c2, c3, c4] := by
    match cs, hc with
    | [c0, c1, c2, c3, c4], _ => exact ⟨c0, c1, c2, c3, c4, rfl⟩
  obtain ⟨ys, n', hn', _, _, hyl, hf⟩ := DataW.trod_struct Tryd.underlying83 h
  have hl : ys.length = 3 := hyl
  have yy : ∀ i (hi : i < 3), ys[i]? = some (ys[i]'(by omega)) := fun i hi => List.getElem?_eq_getElem _
  have h0 : DataW.trod enc Tryd.prog W base spare held n' 3 (([c0, c1, c2, c3, c4].drop 0).take (Tryd.prog.cellsOf 3)) = ys[0]? := hf 0 _ rfl
  have h1 : DataW.trod enc Tryd.prog W base spare held n' 25 (([c0, c1, c2, c3, c4].drop 1).take (Tryd.prog.cellsOf 25)) = ys[1]? := hf 1 _ rfl
  have h2 : DataW.trod enc Tryd.prog W base spare held n' 27 (([c0, c1, c2, c3, c4].drop 4).take (Tryd.prog.cellsOf 27)) = ys[2]? := hf 2 _ rfl
  simp only [cells1 (t := 3) (by kernel_rfl), cellsSo, cells1 (t := 27) (by kernel_rfl), List.drop_zero, List.drop_succ_cons, List.take_succ_cons, List.take_zero] at h0 h1 h2
  obtain ⟨a0, rfl⟩ := int_read (by kernel_rfl) (h0.trans (yy 0 (by omega)))
  obtain ⟨t, q, nm, fq, r1, r2, r3⟩ := so_read (fun n2 hn2 => ih n2 (by omega)) (h1.trans (yy 1 (by omega)))
  obtain ⟨l, l1, l2, r4⟩ := slice_read Tm.c Tm.fits (by kernel_rfl) cellsTm Tm.clen (by decide) (h2.trans (yy 2 (by omega))) fun n2 hn2 cs y ht hcl => tm_read n2 cs y ht hcl
  refine ⟨.mk a0 t q nm l, by rw [Jo.fits]; exact ⟨fq, l1, tmsFits_of l l2⟩, ?_⟩
  rw [Jo.c, smsC_map]
  exact ⟨by simp only [RepD], r1, r2, r3, r4, trivial⟩
theorem sm_read {H : Type} {enc : TypeId × Value → H} {W : World} {base : Nat} {spare : Nat → Bool} {held : Bool} : ∀ (n : Nat) (cs : List Value) (x : DataW H × List MemPlace), DataW.trod enc Tryd.prog W base spare held n 29 cs = some x → cs.length = 13 →
    ∃ e : Sm, e.fits ∧ RepL (memOf W) cs e.c := by
  intro n
  induction n using Nat.strongRecOn with
  | _ n ih =>
  intro cs x h hc
  obtain ⟨c0, c1, c2, c3, c4, c5, c6, c7, c8, c9, ca, cb, cc, rfl⟩ : ∃ c0 c1 c2 c3 c4 c5 c6 c7 c8 c9 ca cb cc, cs = [c0, c1, c2, c3, c4, c5, c6, c7, c8, c9, ca, cb, cc] := by
    match cs, hc with
    | [c0, c1, c2, c3, c4, c5, c6, c7, c8, c9, ca, cb, cc], _ => exact ⟨c0, c1, c2, c3, c4, c5, c6, c7, c8, c9, ca, cb, cc, rfl⟩
  obtain ⟨ys, n', hn', _, _, hyl, hf⟩ := DataW.trod_struct Tryd.underlying29 h
  have hl : ys.length = 11 := hyl
  have yy : ∀ i (hi : i < 11), ys[i]? = some (ys[i]'(by omega)) := fun i hi => List.getElem?_eq_getElem _
  have h0 : DataW.trod enc Tryd.prog W base spare held n' 3 (([c0, c1, c2, c3, c4, c5, c6, c7, c8, c9, ca, cb, cc].drop 0).take (Tryd.prog.cellsOf 3)) = ys[0]? := hf 0 _ rfl
  have h1 : DataW.trod enc Tryd.prog W base spare held n' 4 (([c0, c1, c2, c3, c4, c5, c6, c7, c8, c9, ca, cb, cc].drop 1).take (Tryd.prog.cellsOf 4)) = ys[1]? := hf 1 _ rfl
  have h2 : DataW.trod enc Tryd.prog W base spare held n' 4 (([c0, c1, c2, c3, c4, c5, c6, c7, c8, c9, ca, cb, cc].drop 2).take (Tryd.prog.cellsOf 4)) = ys[2]? := hf 2 _ rfl
  have h3 : DataW.trod enc Tryd.prog W base spare held n' 4 (([c0, c1, c2, c3, c4, c5, c6, c7, c8, c9, ca, cb, cc].drop 3).take (Tryd.prog.cellsOf 4)) = ys[3]? := hf 3 _ rfl
  have h4 : DataW.trod enc Tryd.prog W base spare held n' 22 (([c0, c1, c2, c3, c4, c5, c6, c7, c8, c9, ca, cb, cc].drop 4).take (Tryd.prog.cellsOf 22)) = ys[4]? := hf 4 _ rfl
  have h5 : DataW.trod enc Tryd.prog W base spare held n' 25 (([c0, c1, c2, c3, c4, c5, c6, c7, c8, c9, ca, cb, cc].drop 5).take (Tryd.prog.cellsOf 25)) = ys[5]? := hf 5 _ rfl
  have h6 : DataW.trod enc Tryd.prog W base spare held n' 26 (([c0, c1, c2, c3, c4, c5, c6, c7, c8, c9, ca, cb, cc].drop 8).take (Tryd.prog.cellsOf 26)) = ys[6]? := hf 6 _ rfl
  have h7 : DataW.trod enc Tryd.prog W base spare held n' 27 (([c0, c1, c2, c3, c4, c5, c6, c7, c8, c9, ca, cb, cc].drop 9).take (Tryd.prog.cellsOf 27)) = ys[7]? := hf 7 _ rfl
  have h8 : DataW.trod enc Tryd.prog W base spare held n' 27 (([c0, c1, c2, c3, c4, c5, c6, c7, c8, c9, ca, cb, cc].drop 10).take (Tryd.prog.cellsOf 27)) = ys[8]? := hf 8 _ rfl
  have h9 : DataW.trod enc Tryd.prog W base spare held n' 27 (([c0, c1, c2, c3, c4, c5, c6, c7, c8, c9, ca, cb, cc].drop 11).take (Tryd.prog.cellsOf 27)) = ys[9]? := hf 9 _ rfl
  have h10 : DataW.trod enc Tryd.prog W base spare held n' 23 (([c0, c1, c2, c3, c4, c5, c6, c7, c8, c9, ca, cb, cc].drop 12).take (Tryd.prog.cellsOf 23)) = ys[10]? := hf 10 _ rfl
  simp only [cells1 (t := 3) (by kernel_rfl), cells1 (t := 4) (by kernel_rfl), cellsSo, cells1 (t := 22) (by kernel_rfl), cells1 (t := 26) (by kernel_rfl), cells1 (t := 27) (by kernel_rfl), cells1 (t := 23) (by kernel_rfl), List.drop_zero, List.drop_succ_cons, List.take_succ_cons, List.take_zero] at h0 h1 h2 h3 h4 h5 h6 h7 h8 h9 h10
  obtain ⟨a0, rfl⟩ := int_read (by kernel_rfl) (h0.trans (yy 0 (by omega)))
  obtain ⟨a1, rfl⟩ := bool_read (by kernel_rfl) (h1.trans (yy 1 (by omega)))
  obtain ⟨a2, rfl⟩ := bool_read (by kernel_rfl) (h2.trans (yy 2 (by omega)))
  obtain ⟨a3, rfl⟩ := bool_read (by kernel_rfl) (h3.trans (yy 3 (by omega)))
  obtain ⟨is, i1, i2, r4⟩ := slice_read It.c (fun e => e.t.fits) (by kernel_rfl) cellsIt It.clen (by decide) (h4.trans (yy 4 (by omega))) fun n2 hn2 cs y ht hcl => it_read ht hcl
  obtain ⟨t, q, nm, fq, r5, r6, r7⟩ := so_read (fun n2 hn2 => ih n2 (by omega)) (h5.trans (yy 5 (by omega)))
  obtain ⟨js, j1, j2, r8⟩ := slice_read Jo.c Jo.fits (by kernel_rfl) cellsJo Jo.clen (by decide) (h6.trans (yy 6 (by omega))) fun n2 hn2 cs y ht hcl => jo_read (fun n3 hn3 => ih n3 (by omega)) ht hcl
  obtain ⟨w, w1, w2, r9⟩ := slice_read Tm.c Tm.fits (by kernel_rfl) cellsTm Tm.clen (by decide) (h7.trans (yy 7 (by omega))) fun n2 hn2 cs y ht hcl => tm_read n2 cs y ht hcl
  obtain ⟨g, g1, g2, r10⟩ := slice_read Tm.c Tm.fits (by kernel_rfl) cellsTm Tm.clen (by decide) (h8.trans (yy 8 (by omega))) fun n2 hn2 cs y ht hcl => tm_read n2 cs y ht hcl
  obtain ⟨hh, k1, k2, r11⟩ := slice_read Tm.c Tm.fits (by kernel_rfl) cellsTm Tm.clen (by decide) (h9.trans (yy 9 (by omega))) fun n2 hn2 cs y ht hcl => tm_read n2 cs y ht hcl
  obtain ⟨ks, s1, s2, r12⟩ := slice_read Sm.c Sm.fits (by kernel_rfl) cellsSm Sm.clen (by decide) (h10.trans (yy 10 (by omega))) fun n2 hn2 cs y ht hcl => ih n2 (by omega) cs y ht hcl
  refine ⟨.mk a0 a1 a2 a3 is t q nm js w g hh ks, ?_, ?_⟩
  · rw [Sm.fits]
    refine ⟨⟨i1, tmsFits_of _ fun e he => ?_⟩, fq, ⟨j1, josFits_of js j2⟩, ⟨w1, tmsFits_of w w2⟩, ⟨g1, tmsFits_of g g2⟩, ⟨k1, tmsFits_of hh k2⟩, s1, smsFits_of ks s2⟩
    obtain ⟨i, hi, rfl⟩ := List.mem_map.1 he
    exact i2 i hi
  · rw [Sm.c, smsC_map, smsC_map, josC_map]
    exact ⟨by simp only [RepD], by simp only [RepD], by simp only [RepD], by simp only [RepD], r4, r5, r6, r7, r8, r9, r10, r11, r12, trivial⟩
theorem tm_open {H : Type} {enc : TypeId × Value → H} {W : World} {base : Nat} {r : Reach} {b0 : Nat} {spare : Nat → Bool} {held : Bool} {v : Value} {d : DataW H} {p : List MemPlace}
    (hv : Value.okWide Tryd.prog W r b0 31 v) (h : DataW.Trod enc Tryd.prog W base spare held 31 v d p) : ∃ e : Tm, e.fits ∧ RepA ⟨memOf W, fun _ => none⟩ v e.a := by
  obtain ⟨cs, rfl, hsz⟩ := okWide_struct Tryd.underlying31 hv
  obtain ⟨n, h⟩ := h
  have hl : cs.toList.length = 6 := by simpa [cellsTm] using hsz
  obtain ⟨e, he, hu⟩ := tm_read n cs.toList _ h hl
  refine ⟨e, he, ?_⟩
  simp only [Tm.a, RepA]
  exact ⟨cs.toList, rfl, RepL_as hu⟩
theorem sm_open {H : Type} {enc : TypeId × Value → H} {W : World} {base : Nat} {r : Reach} {b0 : Nat} {spare : Nat → Bool} {held : Bool} {v : Value} {d : DataW H} {p : List MemPlace}
    (hv : Value.okWide Tryd.prog W r b0 29 v) (h : DataW.Trod enc Tryd.prog W base spare held 29 v d p) : ∃ e : Sm, e.fits ∧ RepA ⟨memOf W, fun _ => none⟩ v e.a := by
  obtain ⟨cs, rfl, hsz⟩ := okWide_struct Tryd.underlying29 hv
  obtain ⟨n, h⟩ := h
  have hl : cs.toList.length = 13 := by simpa [cellsSm] using hsz
  obtain ⟨e, he, hu⟩ := sm_read n cs.toList _ h hl
  refine ⟨e, he, ?_⟩
  simp only [Sm.a, RepA]
  exact ⟨cs.toList, rfl, RepL_as hu⟩

/-- What the library's own variable holds: some number. -/
theorem maxLen_cell {W : World} (hs : W.ShapedOpen Tryd.prog) : RepCells (memOf W) 6 0 [.any isI64] ∧ ∃ a ety z, W.heap[6]? = some (.cells a ety z) ∧ a.size = 1 := by
  obtain ⟨m, hm⟩ := Go.Proofs.cell_of_shapedOpen_int (g := 6) (zero := #[.int .i64 0]) (t := 3) hs (of_decide_eq_true (by kernel_rfl)) (by kernel_rfl) rfl (by kernel_rfl) (by kernel_rfl) Tryd.underlying3
  obtain ⟨cs, hh, hz, _⟩ := hs.1 6 #[.int .i64 0] 3 (of_decide_eq_true (by kernel_rfl)) (by kernel_rfl)
  refine ⟨?_, cs, 3, (0, 0), hh, hz⟩
  simp only [RepCells, RepD]
  exact ⟨⟨.int .i64 m, hm, ⟨m, rfl⟩, rfl⟩, trivial⟩
def laidS : List (String × DataW Unit) := [("querylab/sql.operators", Rows.laid_querylab_sql_operators)]
theorem of_laidS {W : World} (h : laidMetH Tryd.prog laidS W) (hs : W.ShapedOpen Tryd.prog) : ∀ g cs, Es.G g = some cs → RepCells (memOf W) g 0 cs ∧ ∃ a ety z, W.heap[g]? = some (.cells a ety z) ∧ a.size = cs.length := by
  rw [MakeChecks.laidMetH_plain _ _ _ (by kernel_rfl)] at h
  obtain ⟨ps, ⟨g0, t0, cs0, f0, p0, q0, hg0, ht0, hv0, hd0, _, _⟩, _, _⟩ := h
  obtain rfl := Option.some.inj (gSops.symm.trans hg0)
  obtain rfl := Option.some.inj (tSops.symm.trans ht0)
  intro g cs hg
  rw [Es_G] at hg
  split at hg
  · rename_i e
    subst e
    cases hg
    exact ⟨laid_rep (m := 4) gSops hv0 hd0 (by kernel_rfl), laid_size (m := 4) gSops hv0 hd0 (by kernel_rfl)⟩
  · split at hg
    · rename_i e
      subst e
      cases hg
      exact maxLen_cell hs
    · cases hg
theorem doorS (os : Os) (args : Array Value) : laidMetH Tryd.prog laidS ((World.doorLaid Tryd.prog 400 os).forCall (fun _ _ => 0) ⟨#[], args, []⟩).memory :=
  laidMetH_of_parts3 (fuel := 8) (laidMet_of_run' 8 (by kernel_rfl) (by kernel_rfl)) (by kernel_rfl) (by kernel_rfl)

/-- A contract over listed variables, the world's shape kept. -/
theorem lifted_shaped {H : Type} {enc : TypeId × Value → H} {a : Assume} {C : Checked} {os : Os} {f : FuncId} {fn : Func} {s : ChangeSpec} {conds : List PathCond} {apart fresh handsOn again : Bool} {X : World → Array Value → Prop}
    (hX : ∀ (w w' : World) (args : Array Value), w.heap = w'.heap → X w args → X w' args)
    (own : ownKnob C.prog.godebug = none) (started : os.Started) (noInit : C.prog.inits.idxOf? f = none) (hfn : C.prog.funcs[f]? = some fn)
    (witness : ∃ (w : World) (tape : Tape) (i : Input), w.os = os ∧ (w.forCall tape i).Shaped C.prog ∧ i.vars = [] ∧ Input.okWide C.prog (w.forCall tape i) .any w.heap.size f i ∧
      ((s.pre enc C.prog fn conds apart (w.forCall tape i).memory i.args ∧ X (w.forCall tape i).memory i.args) ∧ sizedMet enc C.prog fn (OpenSpec.ofChange s) apart (w.forCall tape i).memory i.args) ∧ a.holds C.prog (lone (Frame.enter C.prog f i.args .normal) [] (w.forCall tape i)))
    (contract : ∀ (W : World) (base : Nat) (args : Array Value) (ds gs : List (DataW H)) (before : List MemPlace),
      (∀ (j : Nat) t v, fn.params[j]? = some t → args[j]? = some v → Value.okWide C.prog W .any base t v) →
      DataW.Whole enc C.prog fn.params.toList s.vars apart W args.toList ds gs before →
      W.ShapedOpen C.prog → X W args →
      Calls C.prog f args W fun e W' => ∃ v, e = .returned v ∧ s.post enc C.prog fn apart fresh handsOn again W args v W') :
    ReturnsInHanded a C os f .any (fun w args => (s.pre enc C.prog fn conds apart w args ∧ X w args) ∧ sizedMet enc C.prog fn (OpenSpec.ofChange s) apart w args) (s.post enc C.prog fn apart fresh handsOn again) := by
  refine returnsInHanded_of_calls own started noInit witness ?_
  intro w tape i _ hsh _ hok hpre hholds
  obtain ⟨_, _, _, fn', hfn', _, _, _, _, hval⟩ := hok
  have e : fn' = fn := Option.some.inj (hfn'.symm.trans hfn)
  subst e
  obtain ⟨⟨⟨ds, gs, before, hw, hc⟩, hx⟩, hz⟩ := hpre
  have hw' := DataW.Whole.of_heap (w' := w.forCall tape i) (by rfl) hw
  refine (contract (w.forCall tape i) w.heap.size i.args ds gs before hval hw' hsh (hX _ _ _ (by rfl) hx)).mono fun e W' ⟨v, he, hp⟩ => ?_
  subst he
  exact ChangeSpec.post_blind hp
end Go.Proofs.YtlimkhfjidcelaaDoor
/- What the rows on terms over columns share. -/
namespace Go.Proofs.YtlimkhfjidcelaaDoor
open Go.ChangeShapes Go.WideShapes Go.ChangeAt Go.RowKit Go.Ab Go.Proofs.Tryd
set_option maxRecDepth 100000

theorem gOps : Tryd.prog.globalNamed "querylab/expression.operations" = some 5 := by kernel_rfl
theorem tOps : (Tryd.prog.globals[5]?).map (·.type) = some 199 := by kernel_rfl
def laidT : List (String × DataW Unit) := [("querylab/expression.operations", Rows.laid_querylab_expression_operations), ("querylab/sql.operators", Rows.laid_querylab_sql_operators)]
theorem of_laidT {W : World} (h : laidMetH Tryd.prog laidT W) (hs : W.ShapedOpen Tryd.prog) : ∀ g cs, Et.G g = some cs → RepCells (memOf W) g 0 cs ∧ ∃ a ety z, W.heap[g]? = some (.cells a ety z) ∧ a.size = cs.length := by
  rw [MakeChecks.laidMetH_plain _ _ _ (by kernel_rfl)] at h
  obtain ⟨ps, ⟨g0, t0, cs0, f0, p0, q0, hg0, ht0, hv0, hd0, ⟨g1, t1, cs1, f1, p1, q1, hg1, ht1, hv1, hd1, _, _⟩, _⟩, _, _⟩ := h
  obtain rfl := Option.some.inj (gOps.symm.trans hg0)
  obtain rfl := Option.some.inj (tOps.symm.trans ht0)
  obtain rfl := Option.some.inj (gSops.symm.trans hg1)
  obtain rfl := Option.some.inj (tSops.symm.trans ht1)
  intro g cs hg
  rw [Et_G] at hg
  split at hg
  · rename_i e
    subst e
    cases hg
    exact ⟨laid_rep (m := 4) gSops hv1 hd1 (by kernel_rfl), laid_size (m := 4) gSops hv1 hd1 (by kernel_rfl)⟩
  · split at hg
    · rename_i e
      subst e
      cases hg
      exact ⟨laid_rep (m := 4) gOps hv0 hd0 (by kernel_rfl), laid_size (m := 4) gOps hv0 hd0 (by kernel_rfl)⟩
    · split at hg
      · rename_i e
        subst e
        cases hg
        exact maxLen_cell hs
      · cases hg
theorem doorT (os : Os) (args : Array Value) : laidMetH Tryd.prog laidT ((World.doorLaid Tryd.prog 400 os).forCall (fun _ _ => 0) ⟨#[], args, []⟩).memory :=
  laidMetH_of_parts3 (fuel := 8) (laidMet_of_run' 8 (by kernel_rfl) (by kernel_rfl)) (by kernel_rfl) (by kernel_rfl)
/-- What reads as a list of numbers is one. -/
theorem is_open {H : Type} {enc : TypeId × Value → H} {W : World} {base : Nat} {spare : Nat → Bool} {held : Bool} {r : Reach} {b0 : Nat} {v : Value} {d : DataW H} {p : List MemPlace}
    (hv : Value.okWide Tryd.prog W r b0 37 v) (h : DataW.Trod enc Tryd.prog W base spare held 37 v d p) :
    ∃ l : List Int, RepD (memOf W) v (.sl (ints l)) := by
  obtain ⟨a, len, cap, rfl⟩ := okWide_slice (e := 3) (by kernel_rfl) hv
  obtain ⟨fuel, h⟩ := h
  rcases Go.Deep.open_slice (e := 3) (by kernel_rfl) h with ⟨hc, _⟩ | ⟨a', len', cap', m, n, D, Pl, hc, _, hl, _, hm, _, hi⟩
  · simp only [Value.cells, List.cons.injEq, and_true] at hc
    simp at hc
    obtain ⟨rfl, rfl, rfl⟩ := hc
    exact ⟨[], by simp only [RepD]; exact ⟨none, 0, rfl, Nat.le_refl _, .inl rfl⟩⟩
  · simp [Value.cells] at hc
    obtain ⟨rfl, rfl, rfl⟩ := hc
    have hsz : Tryd.prog.cellsOf 3 = 1 := by
      have : (Tryd.prog.cellsOf 3 == 1) = true := by kernel_rfl
      simpa using this
    obtain ⟨l, _, hr⟩ := sl_rep (w := W) (a := a') (len := len) (cap := cap) (sz := 1) (fun n : Int => [Go.Ab.D.int .i64 n]) hl (fun _ => rfl) (by decide) fun i hlt => by
      obtain ⟨cs, hc, ht⟩ := hi i (by rw [hm]; split <;> omega)
      rw [hsz] at hc
      obtain ⟨_, hcl, hat⟩ := World.cells?_some hc
      obtain ⟨k, e0, _, _⟩ := DataW.trod_int (k := .i64) (by kernel_rfl) ht
      subst e0
      refine ⟨k, fun j c hj => ?_⟩
      have hj0 : j = 0 := by
        have := (List.getElem?_eq_some_iff.1 hj).1
        simpa using this
      subst hj0
      cases hj
      refine ⟨.int .i64 k, ?_, by simp only [RepD]⟩
      rw [← Go.Deep.add_add, hat 0 (by decide)]; rfl
    exact ⟨l, hr⟩
theorem cellsCol : Tryd.prog.cellsOf 64 = 3 := by
  have : (Tryd.prog.cellsOf 64 == 3) = true := by kernel_rfl
  simpa using this
theorem col_read {H : Type} {enc : TypeId × Value → H} {W : World} {base : Nat} {spare : Nat → Bool} {held : Bool} {n : Nat} {cs : List Value} {x : DataW H × List MemPlace} (h : DataW.trod enc Tryd.prog W base spare held n 64 cs = some x) (hc : cs.length = 3) :
    ∃ e : Col, RepL (memOf W) cs e.c := by
  obtain ⟨c0, c1, c2, rfl⟩ : ∃ c0 c1 c2, cs = [c0, c1, c2] := by
    match cs, hc with
    | [c0, c1, c2], _ => exact ⟨c0, c1, c2, rfl⟩
  obtain ⟨ys, n', hn', _, _, hyl, hf⟩ := DataW.trod_struct Tryd.underlying64 h
  have hl : ys.length = 3 := hyl
  have yy : ∀ i (hi : i < 3), ys[i]? = some (ys[i]'(by omega)) := fun i hi => List.getElem?_eq_getElem _
  have h0 : DataW.trod enc Tryd.prog W base spare held n' 9 (([c0, c1, c2].drop 0).take (Tryd.prog.cellsOf 9)) = ys[0]? := hf 0 _ rfl
  have h1 : DataW.trod enc Tryd.prog W base spare held n' 3 (([c0, c1, c2].drop 1).take (Tryd.prog.cellsOf 3)) = ys[1]? := hf 1 _ rfl
  have h2 : DataW.trod enc Tryd.prog W base spare held n' 4 (([c0, c1, c2].drop 2).take (Tryd.prog.cellsOf 4)) = ys[2]? := hf 2 _ rfl
  simp only [cells1 (t := 9) (by kernel_rfl), cells1 (t := 3) (by kernel_rfl), cells1 (t := 4) (by kernel_rfl), List.drop_zero, List.drop_succ_cons, List.take_succ_cons, List.take_zero] at h0 h1 h2
  obtain ⟨s, r0⟩ := str_read (by kernel_rfl) (h0.trans (yy 0 (by omega)))
  obtain ⟨k, rfl⟩ := int_read (by kernel_rfl) (h1.trans (yy 1 (by omega)))
  obtain ⟨b, rfl⟩ := bool_read (by kernel_rfl) (h2.trans (yy 2 (by omega)))
  refine ⟨⟨s, k, b⟩, ?_⟩
  rw [Col.c]
  exact ⟨r0, by simp only [RepD], by simp only [RepD], trivial⟩
theorem cols_open {H : Type} {enc : TypeId × Value → H} {W : World} {base : Nat} {r : Reach} {b0 : Nat} {spare : Nat → Bool} {held : Bool} {v : Value} {d : DataW H} {p : List MemPlace}
    (hv : Value.okWide Tryd.prog W r b0 38 v) (h : DataW.Trod enc Tryd.prog W base spare held 38 v d p) : ∃ l : List Col, l.length ≤ 9223372036854775807 ∧ RepD (memOf W) v (.sl (l.map Col.c)) := by
  obtain ⟨a, len, cap, rfl⟩ := okWide_slice (e := 64) (by kernel_rfl) hv
  obtain ⟨n, h⟩ := h
  have h' : DataW.trod enc Tryd.prog W base spare held n 38 [.slice a len cap] = some (d, p) := h
  obtain ⟨l, l1, _, r1⟩ := slice_read Col.c (fun _ => True) (e := 64) (by kernel_rfl) cellsCol (fun _ => rfl) (by decide) h' fun n2 hn2 cs y ht hcl => by
    obtain ⟨u, hu⟩ := col_read ht hcl
    exact ⟨u, trivial, hu⟩
  exact ⟨l, l1, r1⟩
end Go.Proofs.YtlimkhfjidcelaaDoor
