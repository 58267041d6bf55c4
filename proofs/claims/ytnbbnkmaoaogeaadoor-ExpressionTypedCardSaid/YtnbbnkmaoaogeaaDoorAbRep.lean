/- What stands for what: the reading of data does not turn when memory grows. -/
import Derived.Test.YtnbbnkmaoaogeaaDoorAbDef
set_option linter.all false
namespace Go.Ab

def MuLe (μ μ' : Nat → Nat → Option Value) : Prop := ∀ b o v, μ b o = some v → μ' b o = some v

mutual
theorem RepD_mono {μ μ' : Nat → Nat → Option Value} (hμ : MuLe μ μ') : ∀ (d : D) (v : Value), RepD μ v d → RepD μ' v d
  | .int .., _, h => by simpa [RepD] using h
  | .bool .., _, h => by simpa [RepD] using h
  | .str .., _, h => by simpa [RepD] using h
  | .val .., _, h => by simpa [RepD] using h
  | .sl xs, v, h => by
    simp only [RepD] at *
    obtain ⟨a, cap, h1, h0, h2⟩ := h
    exact ⟨a, cap, h1, h0, h2.imp id fun ⟨b, o, sz, ha, he⟩ => ⟨b, o, sz, ha, RepEls_mono hμ xs b o sz he⟩⟩
theorem RepEls_mono {μ μ' : Nat → Nat → Option Value} (hμ : MuLe μ μ') : ∀ (xs : List (List D)) (b o sz : Nat), RepEls μ b o sz xs → RepEls μ' b o sz xs
  | [], _, _, _, _ => by simp [RepEls]
  | x :: xs, b, o, sz, h => by
    simp only [RepEls] at *
    exact ⟨h.1, RepCells_mono hμ x b o h.2.1, RepEls_mono hμ xs b (o + sz) sz h.2.2⟩
theorem RepCells_mono {μ μ' : Nat → Nat → Option Value} (hμ : MuLe μ μ') : ∀ (cs : List D) (b o : Nat), RepCells μ b o cs → RepCells μ' b o cs
  | [], _, _, _ => by simp [RepCells]
  | c :: cs, b, o, h => by
    simp only [RepCells] at *
    obtain ⟨⟨v, h1, h2⟩, h3⟩ := h
    exact ⟨⟨v, hμ _ _ _ h1, RepD_mono hμ c v h2⟩, RepCells_mono hμ cs b (o + 1) h3⟩
end

theorem RepCells_iff {μ : Nat → Nat → Option Value} {b : Nat} : ∀ {cs : List D} {o : Nat},
    RepCells μ b o cs ↔ ∀ (j : Nat) (c : D), cs[j]? = some c → ∃ v, μ b (o + j) = some v ∧ RepD μ v c
  | [], o => by simp [RepCells]
  | c :: cs, o => by
    simp only [RepCells, RepCells_iff (cs := cs)]
    constructor
    · rintro ⟨h1, h2⟩ j d hj
      cases j with
      | zero => simp at hj; subst hj; simpa using h1
      | succ j => have := h2 j d (by simpa using hj); rwa [show o + 1 + j = o + (j + 1) from by omega] at this
    · intro h
      exact ⟨by simpa using h 0 c rfl, fun j d hj => by have := h (j + 1) d (by simpa using hj); rwa [show o + (j + 1) = o + 1 + j from by omega] at this⟩

theorem RepEls_iff {μ : Nat → Nat → Option Value} {b sz : Nat} : ∀ {xs : List (List D)} {o : Nat},
    RepEls μ b o sz xs ↔ ∀ (i : Nat) (x : List D), xs[i]? = some x → x.length = sz ∧ RepCells μ b (o + i * sz) x
  | [], o => by simp [RepEls]
  | x :: xs, o => by
    simp only [RepEls, RepEls_iff (xs := xs)]
    constructor
    · rintro ⟨h1, h2, h3⟩ i y hi
      cases i with
      | zero => simp at hi; subst hi; simpa using ⟨h1, h2⟩
      | succ i => have := h3 i y (by simpa using hi); rwa [show o + sz + i * sz = o + (i + 1) * sz from by rw [Nat.add_mul]; omega] at this
    · intro h
      exact ⟨(h 0 x rfl).1, by simpa using (h 0 x rfl).2, fun i y hi => by have := h (i + 1) y (by simpa using hi); rwa [show o + (i + 1) * sz = o + sz + i * sz from by rw [Nat.add_mul]; omega] at this⟩

theorem RepD_oneCell {μ : Nat → Nat → Option Value} {v : Value} {d : D} (h : RepD μ v d) : v.oneCell' = true := by
  cases d <;> simp only [RepD] at h
  case int => subst h; rfl
  case bool => subst h; rfl
  case str => subst h; rfl
  case val => rw [h.1]; exact h.2
  case sl => obtain ⟨a, cap, rfl, _⟩ := h; rfl

structure Gh.le (h h' : Gh) : Prop where
  μ : MuLe h.μ h'.μ
  L : ∀ n l, h.L n = some l → h'.L n = some l
theorem Gh.le.refl (h : Gh) : h.le h := ⟨fun _ _ _ e => e, fun _ _ e => e⟩
theorem Gh.le.trans {a b c : Gh} (x : a.le b) (y : b.le c) : a.le c := ⟨fun i j v e => y.μ i j v (x.μ i j v e), fun n l e => y.L n l (x.L n l e)⟩

mutual
theorem RepA_mono {h h' : Gh} (le : h.le h') : ∀ (c : AV) (v : Value), RepA h v c → RepA h' v c
  | .un, _, _ => by simp [RepA]
  | .sk, _, e => by simpa [RepA] using e
  | .d x, v, e => by simp only [RepA] at *; exact RepD_mono le.μ x v e
  | .agg cs, v, e => by simp only [RepA] at *; obtain ⟨arr, h1, h2⟩ := e; exact ⟨arr, h1, RepAs_mono le cs arr h2⟩
  | .tup cs, v, e => by simp only [RepA] at *; obtain ⟨arr, h1, h2⟩ := e; exact ⟨arr, h1, RepAs_mono le cs arr h2⟩
  | .ptr n i j, v, e => by simp only [RepA] at *; obtain ⟨l, h1, h2⟩ := e; exact ⟨l, le.L n l h1, h2⟩
  | .dp cs, v, e => by simp only [RepA] at *; obtain ⟨b, o, h1, h2⟩ := e; exact ⟨b, o, h1, RepCells_mono le.μ cs b o h2⟩
  | .ref n lo len sz, v, e => by simp only [RepA] at *; obtain ⟨l, h1, h2⟩ := e; exact ⟨l, le.L n l h1, h2⟩
  | .nils, v, e => by simpa [RepA] using e
  | .clo f caps, v, e => by simp only [RepA] at *; obtain ⟨arr, h1, h2⟩ := e; exact ⟨arr, h1, RepAs_mono le caps arr h2⟩
theorem RepAs_mono {h h' : Gh} (le : h.le h') : ∀ (cs : List AV) (vs : List Value), RepAs h vs cs → RepAs h' vs cs
  | [], _, e => by simpa [RepAs] using e
  | c :: cs, _, e => by
    simp only [RepAs] at *
    obtain ⟨u, us, h1, h2, h3⟩ := e
    exact ⟨u, us, h1, RepA_mono le c u h2, RepAs_mono le cs us h3⟩
end

theorem RepAs_iff {h : Gh} : ∀ {cs : List AV} {vs : List Value}, RepAs h vs cs ↔ vs.length = cs.length ∧ ∀ (j : Nat) (c : AV), cs[j]? = some c → ∃ v, vs[j]? = some v ∧ RepA h v c
  | [], vs => by simp [RepAs]
  | c :: cs, vs => by
    simp only [RepAs]
    constructor
    · rintro ⟨u, us, rfl, h2, h3⟩
      rw [RepAs_iff] at h3
      refine ⟨by simp [h3.1], fun j d hj => ?_⟩
      cases j with
      | zero => simp at hj; subst hj; exact ⟨u, rfl, h2⟩
      | succ j => simpa using h3.2 j d (by simpa using hj)
    · rintro ⟨hl, hg⟩
      cases vs with
      | nil => simp at hl
      | cons u us =>
        refine ⟨u, us, rfl, ?_, RepAs_iff.2 ⟨by simpa using hl, fun j d hj => by simpa using hg (j + 1) d (by simpa using hj)⟩⟩
        obtain ⟨v, hv, hr⟩ := hg 0 c rfl
        simp at hv
        exact hv ▸ hr

theorem RepA_cells {h : Gh} {v : Value} {c : AV} (hr : RepA h v c) (hg : c.good = true) : RepAs h v.cells.toList c.cells := by
  cases c <;> simp only [RepA] at hr <;> simp [AV.good] at hg
  case d x =>
    have := RepD_oneCell hr
    cases v <;> first | (simp [Value.oneCell'] at this; done) | simp [Value.cells, AV.cells, RepAs, RepA, hr]
  case agg cs => obtain ⟨arr, rfl, h2⟩ := hr; simpa [Value.cells, AV.cells] using h2
  case ptr => obtain ⟨l, h1, h2, rfl⟩ := hr; simp [Value.cells, AV.cells, RepAs, RepA, h1, h2]
  case dp => obtain ⟨b, o, rfl, h2⟩ := hr; exact ⟨_, _, rfl, ⟨b, o, rfl, h2⟩, rfl⟩
  case ref n lo len sz =>
    have hv : v.cells = #[v] := by
      obtain ⟨l, h1, _, h2⟩ := hr
      split at h2
      · rw [h2.1]; rfl
      · obtain ⟨cap, hc, _⟩ := h2; rw [hc]; rfl
    simpa [hv, AV.cells, RepAs, RepA] using hr
  case nils => subst hr; simp [Value.cells, AV.cells, RepAs, RepA]
  case clo => obtain ⟨arr, rfl, h2⟩ := hr; simp [Value.cells, AV.cells, RepAs, RepA, h2]

theorem isCell_one {h : Gh} {v : Value} {c : AV} (hr : RepA h v c) (hc : c.isCell = true) : v.oneCell' = true := by
  cases c <;> simp only [RepA] at hr <;> simp [AV.isCell] at hc
  case d x => exact RepD_oneCell hr
  case ptr => obtain ⟨l, h1, h2, rfl⟩ := hr; rfl
  case dp => obtain ⟨b, o, rfl, h2⟩ := hr; rfl
  case ref n lo len sz =>
    obtain ⟨l, h1, _, h2⟩ := hr
    split at h2
    · rw [h2.1]; rfl
    · obtain ⟨cap, hc, _⟩ := h2; rw [hc]; rfl
  case nils => subst hr; rfl
  case clo => obtain ⟨arr, rfl, h2⟩ := hr; rfl
end Go.Ab
