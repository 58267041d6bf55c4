/- What a listed variable holds, as data: read off its datum. -/
import Derived.Test.YtnbbnkmaoaogeaaDoorAbRow
import Derived.MakeChecks
import Derived.OpenShut
import Derived.ChangeArms
set_option linter.all false
namespace Go.Ab
open Go.RowKit

def RepL (μ : Nat → Nat → Option Value) : List Value → List D → Prop
  | [], [] => True
  | v :: vs, c :: cs => RepD μ v c ∧ RepL μ vs cs
  | _, _ => False
theorem RepL_append {μ : Nat → Nat → Option Value} : ∀ {a : List Value} {x : List D} {b : List Value} {y : List D}, RepL μ a x → RepL μ b y → RepL μ (a ++ b) (x ++ y)
  | [], [], _, _, _, h => h
  | v :: vs, c :: cs, _, _, h1, h2 => ⟨h1.1, RepL_append h1.2 h2⟩
  | [], _ :: _, _, _, h, _ => h.elim
  | _ :: _, [], _, _, h, _ => h.elim
theorem RepL_cells {μ : Nat → Nat → Option Value} {b : Nat} : ∀ {l : List Value} {x : List D} {o : Nat}, RepL μ l x → (∀ i v, l[i]? = some v → μ b (o + i) = some v) → RepCells μ b o x
  | [], [], _, _, _ => trivial
  | v :: vs, c :: cs, o, h, hm => by
    refine ⟨⟨v, by simpa using hm 0 v rfl, h.1⟩, RepL_cells h.2 fun i u hu => ?_⟩
    have := hm (i + 1) u (by simpa using hu)
    rw [show o + 1 + i = o + (i + 1) from by omega]; exact this
  | [], _ :: _, _, h, _ => h.elim
  | _ :: _, [], _, h, _ => h.elim

variable {H : Type}
/-- The cells of a plain datum. -/
def fieldsD (P : Program) (r : TypeId → DataW H → Option (List D)) : Nat → List Field → List (DataW H) → Option (List D × Nat)
  | o, [], [] => some ([], o)
  | o, f :: fs, d :: ds => if f.offset = o then match r f.type d, fieldsD P r (o + P.cellsOf f.type) fs ds with
      | some x, some (y, e) => some (x ++ y, e)
      | _, _ => none
    else none
  | _, _, _ => none
def arrD (r : DataW H → Option (List D)) : List (DataW H) → Option (List D)
  | [] => some []
  | d :: ds => match r d, arrD r ds with
    | some x, some y => some (x ++ y)
    | _, _ => none
def undat (P : Program) : Nat → TypeId → DataW H → Option (List D)
  | 0, _, _ => none
  | n + 1, t, d => match P.underlying t, d with
    | some .bool, .lit (.bool b) => some [.bool b]
    | some (.int k), .lit (.int k' m) => if k' = k then some [.int k m] else none
    | some .string, .lit (.string s) => some [.str s]
    | some (.struct fs), .agg ds => match fieldsD P (undat P n) 0 fs.toList ds with
      | some (x, e) => if e = P.cellsOf t then some x else none
      | none => none
    | some (.array m e), .agg ds => if ds.length = m ∧ P.cellsOf t = m * P.cellsOf e then arrD (undat P n e) ds else none
    | _, _ => none

variable {enc : TypeId × Value → H} {P : Program} {w : World} {base : Nat} {spare : Nat → Bool} {held : Bool}
theorem undat_fields {μ : Nat → Nat → Option Value} {cs : List Value} {r : TypeId → DataW H → Option (List D)} {q : TypeId → List Value → Option (DataW H × List MemPlace)}
    (hr : ∀ t c d p x, q t c = some (d, p) → r t d = some x → RepL μ c x) :
    ∀ (fs : List Field) (o : Nat) (xs : List (DataW H × List MemPlace)) (y : List D) (e : Nat), (fs.mapM fun f => q f.type ((cs.drop f.offset).take (P.cellsOf f.type))) = some xs →
      fieldsD P r o fs (xs.map (·.1)) = some (y, e) → e = cs.length → RepL μ (cs.drop o) y
  | [], o, xs, y, e, h, hy, he => by
    simp only [List.mapM_nil, Option.pure_def, Option.some.injEq] at h
    subst h
    simp only [List.map_nil, fieldsD, Option.some.injEq, Prod.mk.injEq] at hy
    obtain ⟨rfl, rfl⟩ := hy
    rw [he, List.drop_length]; trivial
  | f :: fs, o, xs, y, e, h, hy, he => by
    simp only [List.mapM_cons, Option.bind_eq_bind, Option.bind_eq_some_iff, Option.pure_def, Option.some.injEq] at h
    obtain ⟨⟨d, p⟩, h1, xs', h2, rfl⟩ := h
    simp only [List.map_cons, fieldsD] at hy
    split at hy
    · rename_i ho
      subst ho
      split at hy
      · rename_i x y' e' hx hy'
        cases hy
        have i1 := hr _ _ _ _ _ h1 hx
        have i2 := undat_fields hr fs _ xs' y' _ h2 hy' he
        rw [← List.take_append_drop (P.cellsOf f.type) (cs.drop f.offset), List.drop_drop]
        exact RepL_append i1 i2
      · cases hy
    · cases hy
theorem undat_arr {μ : Nat → Nat → Option Value} {sz : Nat} {r : DataW H → Option (List D)} {q : List Value → Option (DataW H × List MemPlace)}
    (hr : ∀ c d p x, q c = some (d, p) → r d = some x → RepL μ c x) :
    ∀ (ds : List (DataW H)) (cs : List Value) (y : List D), cs.length = ds.length * sz → (∀ i d, ds[i]? = some d → ∃ p, q ((cs.drop (i * sz)).take sz) = some (d, p)) → arrD r ds = some y → RepL μ cs y
  | [], cs, y, hl, _, hy => by
    simp only [arrD, Option.some.injEq] at hy
    subst hy
    have : cs = [] := List.eq_nil_of_length_eq_zero (by simpa using hl)
    subst this; trivial
  | d :: ds, cs, y, hl, h, hy => by
    simp only [arrD] at hy
    split at hy
    · rename_i x y' hx hy'
      cases hy
      obtain ⟨p, hp⟩ := h 0 d rfl
      simp only [Nat.zero_mul, List.drop_zero] at hp
      have i1 := hr _ _ _ _ hp hx
      have i2 := undat_arr (sz := sz) hr ds (cs.drop sz) y' (by rw [List.length_drop, hl, List.length_cons, Nat.add_mul, Nat.one_mul]; omega) (fun i d' hd => by
        obtain ⟨p', hp'⟩ := h (i + 1) d' (by simpa using hd)
        refine ⟨p', ?_⟩
        rw [List.drop_drop, show sz + i * sz = (i + 1) * sz from by rw [Nat.succ_mul]; omega]
        exact hp') hy'
      rw [← List.take_append_drop sz cs]
      exact RepL_append i1 i2
    · cases hy
theorem undat_sound {μ : Nat → Nat → Option Value} : ∀ (n m : Nat) (t : TypeId) (cs : List Value) (d : DataW H) (p : List MemPlace) (x : List D), DataW.trod enc P w base spare held n t cs = some (d, p) → undat P m t d = some x → RepL μ cs x
  | _, 0, _, _, _, _, _, _, h => by simp [undat] at h
  | 0, _, _, _, _, _, _, h, _ => by simp [DataW.trod] at h
  | n + 1, m + 1, t, cs, d, p, x, h, hx => by
    unfold undat at hx
    split at hx
    · rename_i ht
      cases hx
      obtain ⟨b, rfl, e⟩ := DataW.trod_bool ht h
      simp only [Prod.mk.injEq, DataW.lit.injEq, Lit.bool.injEq] at e
      obtain ⟨rfl, _⟩ := e
      exact ⟨by simp only [RepD], trivial⟩
    · rename_i k k' j ht
      split at hx
      · rename_i hk
        subst hk
        cases hx
        obtain ⟨b, rfl, e, _⟩ := DataW.trod_int ht h
        simp only [Prod.mk.injEq, DataW.lit.injEq, Lit.int.injEq] at e
        obtain ⟨⟨_, rfl⟩, _⟩ := e
        exact ⟨by simp only [RepD], trivial⟩
      · cases hx
    · rename_i s ht
      cases hx
      obtain ⟨b, rfl, e, _⟩ := DataW.trod_string ht h
      simp only [Prod.mk.injEq, DataW.lit.injEq, Lit.string.injEq] at e
      obtain ⟨rfl, _⟩ := e
      exact ⟨by simp only [RepD], trivial⟩
    · rename_i fs ds ht
      split at hx
      · rename_i y e hy
        split at hx
        · rename_i he
          cases hx
          simp only [DataW.trod, ht] at h
          split at h
          · rename_i hl
            simp only [Option.map_eq_some_iff] at h
            obtain ⟨xs, hm, e2⟩ := h
            simp only [Prod.mk.injEq, DataW.agg.injEq] at e2
            obtain ⟨rfl, _⟩ := e2
            have := undat_fields (P := P) (μ := μ) (cs := cs) (r := undat P m) (q := DataW.trod enc P w base spare held n) (fun t c d p x a b => undat_sound n m t c d p x a b) fs.toList 0 xs x _ hm hy (by rw [he, hl])
            simpa using this
          · cases h
        · cases hx
      · cases hx
    · rename_i k e ds ht
      split at hx
      · rename_i hd
        obtain ⟨hd, hc⟩ := hd
        obtain ⟨xs, m1, e1, e2, hlen, hn3, hel⟩ := DataW.trod_array ht h
        obtain rfl : n = m1 := by omega
        simp only [Prod.mk.injEq, DataW.agg.injEq] at e2
        obtain ⟨rfl, _⟩ := e2
        refine undat_arr (sz := P.cellsOf e) (fun c d p x a b => undat_sound n m e c d p x a b) (xs.map (·.1)) cs x (by rw [hlen, hc, List.length_map, hn3]) (fun i d' hd => ?_) hx
        rw [List.getElem?_map, Option.map_eq_some_iff] at hd
        obtain ⟨⟨d2, p2⟩, hd, rfl⟩ := hd
        have hi : i < k := by
          obtain ⟨hi, _⟩ := List.getElem?_eq_some_iff.1 hd
          omega
        exact ⟨p2, by rw [hel i hi, hd]⟩
      · cases hx
    · cases hx
/-- A listed variable whose datum is plain, by its number. -/
theorem laid_rep {name : String} {g f : Nat} {t : TypeId} {cs : Array Value} {d : DataW Unit} {p : List MemPlace} {x : List D} {m : Nat} {en : TypeId × Value → Unit}
    (hg : P.globalNamed name = some g) (hv : w.var? P name = some cs) (hd : DataW.trod en P w base spare held f t cs.toList = some (d, p)) (hu : undat P m t d = some x) : RepCells (memOf w) g 0 x := by
  refine RepL_cells (undat_sound f m t cs.toList d p x hd hu) fun i v hi => ?_
  unfold memOf
  rw [World.var?_cell hg hv, Nat.zero_add, ← Array.getElem?_toList]
  exact hi
end Go.Ab
