/- Classes of a column's values: the plain law. -/
import Derived.Test.YtlimkhfjidcelaaGreatDoorCmps0
import Derived.Test.YtlimkhfjidcelaaGreatDoorEva
import Derived.Test.YtlimkhfjidcelaaGreatDoorCst
set_option linter.all false
namespace Go.Proofs.Tryz
open Go.Ab
set_option maxRecDepth 100000
set_option maxHeartbeats 2000000

instance V.dec : DecidableEq V := fun a b =>
  if h : a.k = b.k ∧ a.n = b.n ∧ a.t = b.t then .isTrue (by cases a; cases b; simp only at h; obtain ⟨rfl, rfl, rfl⟩ := h; rfl) else .isFalse fun e => by subst e; exact h ⟨rfl, rfl, rfl⟩
theorem cmpI_eq {a b : Int} (h : cmpI a b = 0) : a = b := by
  rcases cmpI_cases a b with ⟨_, h1, _⟩ | ⟨h1, _, _⟩ | ⟨_, h1, _⟩
  · omega
  · exact h1
  · omega
theorem cmpS_eq {a b : List UInt8} (h : cmpS a b = 0) : a = b := by
  rcases cmpS_cases a b with ⟨_, h1, _⟩ | ⟨h1, _, _⟩ | ⟨_, h1, _⟩
  · omega
  · exact h1
  · omega
theorem V.cmp_eq {v u : V} (h : v.cmp u = 0) : v = u := by
  rw [V.cmp_def] at h
  split at h
  · exact absurd h (by assumption)
  · rename_i h1
    split at h
    · exact absurd h (by assumption)
    · rename_i h2
      cases v; cases u
      simp only [V.mk.injEq]
      exact ⟨cmpI_eq (by simpa using h1), cmpI_eq (by simpa using h2), cmpS_eq h⟩
def V.lt (v u : V) : Prop := v.cmp u < 0
def V.le (v u : V) : Prop := v.cmp u ≤ 0
theorem V.lt_irr (v : V) : ¬ v.lt v := by unfold V.lt; rw [V.cmp_self]; omega
theorem V.lt_asym {v u : V} (h : v.lt u) : ¬ u.lt v := by unfold V.lt at *; rw [V.cmp_neg]; omega
theorem V.le_of_not {v u : V} (h : ¬ v.lt u) : u.le v := by unfold V.lt V.le at *; rw [V.cmp_neg]; omega
theorem V.le_trans {a b c : V} (h1 : a.le b) (h2 : b.le c) : a.le c := V.cmp_trans h1 h2
theorem V.lt_le {v u : V} (h : v.lt u) : v.le u := by unfold V.lt V.le at *; omega
theorem V.lt_trans {a b c : V} (h1 : a.lt b) (h2 : b.lt c) : a.lt c := by
  have h3 := V.le_trans (V.lt_le h1) (V.lt_le h2)
  have : a.cmp c ≠ 0 := fun h => by
    have := V.cmp_eq h
    subst this
    exact V.lt_asym h1 h2
  unfold V.lt V.le at *; omega
theorem V.lt_of_le_ne {v u : V} (h : v.le u) (hn : v ≠ u) : v.lt u := by
  have : v.cmp u ≠ 0 := fun h => hn (V.cmp_eq h)
  unfold V.lt V.le at *; omega
theorem V.le_refl (v : V) : v.le v := by unfold V.le; rw [V.cmp_self]; omega

/-! Sorted lists. -/
theorem sorted_ext : ∀ a b : List V, a.Pairwise V.lt → b.Pairwise V.lt → (∀ x, x ∈ a ↔ x ∈ b) → a = b
  | [], [], _, _, _ => rfl
  | [], y :: b, _, _, h => by have := (h y).2 List.mem_cons_self; cases this
  | x :: a, [], _, _, h => by have := (h x).1 List.mem_cons_self; cases this
  | x :: a, y :: b, ha, hb, h => by
    rw [List.pairwise_cons] at ha hb
    have hxy : x = y := by
      rcases List.mem_cons.1 ((h x).1 List.mem_cons_self) with e | e
      · exact e
      · rcases List.mem_cons.1 ((h y).2 List.mem_cons_self) with e' | e'
        · exact e'.symm
        · exact absurd (hb.1 x e) (V.lt_asym (ha.1 y e'))
    subst hxy
    rw [sorted_ext a b ha.2 hb.2 fun z => ?_]
    have hz := h z
    constructor
    · intro hm
      rcases List.mem_cons.1 (hz.1 (List.mem_cons_of_mem _ hm)) with e | e
      · subst e; exact absurd (ha.1 z hm) (V.lt_irr z)
      · exact e
    · intro hm
      rcases List.mem_cons.1 (hz.2 (List.mem_cons_of_mem _ hm)) with e | e
      · subst e; exact absurd (hb.1 z hm) (V.lt_irr z)
      · exact e
/-- A value put into an ascending list, once. -/
def posD (v : V) : List V → Nat
  | [] => 0
  | u :: us => if u.cmp v < 0 then posD v us + 1 else 0
def insD (l : List V) (v : V) : List V := if l[posD v l]? = some v then l else l.take (posD v l) ++ v :: l.drop (posD v l)
theorem posD_le (v : V) : ∀ l : List V, posD v l ≤ l.length
  | [] => by simp [posD]
  | u :: us => by have := posD_le v us; simp only [posD, List.length_cons]; split <;> omega
theorem insD_cons (u : V) (us : List V) (v : V) : insD (u :: us) v = if u.cmp v < 0 then u :: insD us v else if u = v then u :: us else v :: u :: us := by
  unfold insD
  by_cases h : u.cmp v < 0
  · have : posD v (u :: us) = posD v us + 1 := by simp [posD, h]
    rw [this, if_pos h]
    simp only [List.getElem?_cons_succ, List.take_succ_cons, List.drop_succ_cons]
    split <;> rfl
  · have : posD v (u :: us) = 0 := by simp [posD, h]
    rw [this, if_neg h]
    by_cases e : u = v
    · simp [e]
    · simp [e]
theorem insD_mem (v x : V) : ∀ l : List V, x ∈ insD l v ↔ x = v ∨ x ∈ l
  | [] => by simp [insD, posD]
  | u :: us => by
    rw [insD_cons]
    split
    · rw [List.mem_cons, insD_mem v x us, List.mem_cons]
      constructor
      · rintro (h | h | h)
        · exact .inr (.inl h)
        · exact .inl h
        · exact .inr (.inr h)
      · rintro (h | h | h)
        · exact .inr (.inl h)
        · exact .inl h
        · exact .inr (.inr h)
    · split
      · rename_i e
        subst e
        constructor
        · exact fun h => .inr h
        · rintro (rfl | h)
          · exact List.mem_cons_self
          · exact h
      · rw [List.mem_cons]
theorem insD_sorted (v : V) : ∀ l : List V, l.Pairwise V.lt → (insD l v).Pairwise V.lt
  | [], _ => by simp [insD, posD]
  | u :: us, h => by
    rw [insD_cons]
    rw [List.pairwise_cons] at h
    split
    · rename_i h1
      rw [List.pairwise_cons]
      refine ⟨fun x hx => ?_, insD_sorted v us h.2⟩
      rcases (insD_mem v x us).1 hx with rfl | hx
      · exact h1
      · exact h.1 x hx
    · split
      · rw [List.pairwise_cons]; exact h
      · rename_i h1 h2
        have hvu : v.lt u := V.lt_of_le_ne (V.le_of_not h1) (fun e => h2 e.symm)
        rw [List.pairwise_cons, List.pairwise_cons]
        refine ⟨fun x hx => ?_, h⟩
        rcases List.mem_cons.1 hx with rfl | hx
        · exact hvu
        · exact V.lt_trans hvu (h.1 x hx)
def sortD (l : List V) : List V := l.foldl insD []
theorem foldD (l : List V) : ∀ acc : List V, acc.Pairwise V.lt → (l.foldl insD acc).Pairwise V.lt ∧ ∀ x, x ∈ l.foldl insD acc ↔ x ∈ l ∨ x ∈ acc := by
  induction l with
  | nil => intro acc h; exact ⟨h, fun x => by simp⟩
  | cons v l ih =>
    intro acc h
    obtain ⟨a, b⟩ := ih (insD acc v) (insD_sorted v acc h)
    refine ⟨a, fun x => ?_⟩
    rw [List.foldl_cons, b x, insD_mem, List.mem_cons]
    constructor
    · rintro (h | h | h)
      · exact .inl (.inr h)
      · exact .inl (.inl h)
      · exact .inr h
    · rintro ((h | h) | h)
      · exact .inr (.inl h)
      · exact .inl h
      · exact .inr (.inr h)
theorem sortD_sorted (l : List V) : (sortD l).Pairwise V.lt := (foldD l [] .nil).1
theorem sortD_mem (l : List V) (x : V) : x ∈ sortD l ↔ x ∈ l := by rw [sortD, (foldD l [] .nil).2]; simp

/-! Sorting by insertion, as the library does; and leaving out what is equal to the one before. -/
def posS (acc : List V) (v : V) : Nat → Nat
  | 0 => 0
  | j + 1 => if v.cmp ((acc[j]?).getD v) < 0 then posS acc v j else j + 1
def insS (acc : List V) (v : V) : List V := acc.take (posS acc v acc.length) ++ v :: acc.drop (posS acc v acc.length)
def isort (l : List V) : List V := l.foldl insS []
theorem posS_le (acc : List V) (v : V) : ∀ j, posS acc v j ≤ j
  | 0 => Nat.le_refl _
  | j + 1 => by have := posS_le acc v j; rw [posS]; split <;> omega
theorem posS_gt (acc : List V) (v : V) : ∀ j, j ≤ acc.length → ∀ i (h : i < acc.length), posS acc v j ≤ i → i < j → v.cmp acc[i] < 0
  | 0, _, i, _, _, h => absurd h (by omega)
  | j + 1, hj, i, hi, h1, h2 => by
    rw [posS] at h1
    split at h1
    · rename_i hc
      rcases Nat.lt_or_ge i j with c | c
      · exact posS_gt acc v j (by omega) i hi h1 c
      · have : i = j := by omega
        subst this
        rw [List.getElem?_eq_getElem hi] at hc
        exact hc
    · omega
theorem posS_before (acc : List V) (v : V) : ∀ j, j ≤ acc.length → 0 < posS acc v j → ¬ v.cmp ((acc[posS acc v j - 1]?).getD v) < 0
  | 0, _, h => absurd h (by simp [posS])
  | j + 1, hj, h => by
    rw [posS] at h ⊢
    split
    · rename_i hc
      rw [if_pos hc] at h
      exact posS_before acc v j (by omega) h
    · rename_i hc
      simpa using hc
theorem insS_mem (acc : List V) (v x : V) : x ∈ insS acc v ↔ x = v ∨ x ∈ acc := by
  unfold insS
  rw [List.mem_append, List.mem_cons]
  have h : acc = acc.take (posS acc v acc.length) ++ acc.drop (posS acc v acc.length) := (List.take_append_drop _ _).symm
  constructor
  · rintro (h1 | h1 | h1)
    · exact .inr (List.mem_of_mem_take h1)
    · exact .inl h1
    · exact .inr (List.mem_of_mem_drop h1)
  · rintro (h1 | h1)
    · exact .inr (.inl h1)
    · rw [h, List.mem_append] at h1
      rcases h1 with h1 | h1
      · exact .inl h1
      · exact .inr (.inr h1)
theorem insS_sorted (acc : List V) (v : V) (h : acc.Pairwise V.le) : (insS acc v).Pairwise V.le := by
  have hle := posS_le acc v acc.length
  have hgt := posS_gt acc v acc.length (Nat.le_refl _)
  have hbf := posS_before acc v acc.length (Nat.le_refl _)
  unfold insS
  generalize posS acc v acc.length = p at *
  rw [List.pairwise_append, List.pairwise_cons]
  have hdr : ∀ x ∈ acc.drop p, v.le x := fun x hx => by
    obtain ⟨i, hi, rfl⟩ := List.getElem_of_mem hx
    rw [List.getElem_drop]
    have hi' : p + i < acc.length := by rw [List.length_drop] at hi; omega
    exact V.lt_le (hgt (p + i) hi' (by omega) hi')
  have htk : ∀ x ∈ acc.take p, x.le v := fun x hx => by
    obtain ⟨i, hi, rfl⟩ := List.getElem_of_mem hx
    rw [List.length_take] at hi
    rw [List.getElem_take]
    have hp : 0 < p := by omega
    have h1 := hbf hp
    have hpl : p - 1 < acc.length := by omega
    rw [List.getElem?_eq_getElem hpl, Option.getD_some] at h1
    have h2 : (acc[p - 1]).le v := V.le_of_not h1
    rcases Nat.lt_or_ge i (p - 1) with c | c
    · exact V.le_trans ((List.pairwise_iff_getElem.1 h) i (p - 1) (by omega) hpl c) h2
    · have : i = p - 1 := by omega
      subst this; exact h2
  refine ⟨h.sublist (List.take_sublist _ _), ⟨hdr, h.sublist (List.drop_sublist _ _)⟩, fun a ha b hb => ?_⟩
  rcases List.mem_cons.1 hb with rfl | hb
  · exact htk a ha
  · exact V.le_trans (htk a ha) (hdr b hb)
theorem foldS (l : List V) : ∀ acc : List V, acc.Pairwise V.le → (l.foldl insS acc).Pairwise V.le ∧ ∀ x, x ∈ l.foldl insS acc ↔ x ∈ l ∨ x ∈ acc := by
  induction l with
  | nil => intro acc h; exact ⟨h, fun x => by simp⟩
  | cons v l ih =>
    intro acc h
    obtain ⟨a, b⟩ := ih (insS acc v) (insS_sorted acc v h)
    refine ⟨a, fun x => ?_⟩
    rw [List.foldl_cons, b x, insS_mem, List.mem_cons]
    constructor
    · rintro (h | h | h)
      · exact .inl (.inr h)
      · exact .inl (.inl h)
      · exact .inr h
    · rintro ((h | h) | h)
      · exact .inr (.inl h)
      · exact .inl h
      · exact .inr (.inr h)
def V.beq (a b : V) : Bool := a.k == b.k && (a.n == b.n && a.t == b.t)
theorem V.beq_iff (a b : V) : V.beq a b = true ↔ a = b := by
  cases a; cases b
  simp [V.beq, V.mk.injEq]
/-- What is left of a list when what is equal to the one before is left out. -/
def compV : List V → List V
  | [] => []
  | [v] => [v]
  | v :: u :: l => if V.beq v u = true then compV (u :: l) else v :: compV (u :: l)
theorem compV_head : ∀ (v : V) (l : List V), ∃ m, compV (v :: l) = v :: m
  | v, [] => ⟨[], rfl⟩
  | v, u :: l => by
    rw [compV]
    split
    · rename_i h
      have := (V.beq_iff v u).1 h
      subst this
      exact compV_head v l
    · exact ⟨_, rfl⟩
theorem compV_mem (x : V) : ∀ l : List V, x ∈ compV l ↔ x ∈ l
  | [] => by simp [compV]
  | [v] => by simp [compV]
  | v :: u :: l => by
    rw [compV]
    split
    · rename_i h
      have := (V.beq_iff v u).1 h
      subst this
      rw [compV_mem x (v :: l)]
      simp
    · rw [List.mem_cons, compV_mem x (u :: l), List.mem_cons (a := x) (b := v)]
theorem compV_sorted : ∀ l : List V, l.Pairwise V.le → (compV l).Pairwise V.lt
  | [], _ => by simp [compV]
  | [v], _ => by simp [compV]
  | v :: u :: l, h => by
    rw [compV]
    have h' := List.pairwise_cons.1 h
    have ih := compV_sorted (u :: l) h'.2
    split
    · exact ih
    · rename_i hne
      have hvu : v.lt u := V.lt_of_le_ne (h'.1 u List.mem_cons_self) fun e => hne ((V.beq_iff v u).2 e)
      rw [List.pairwise_cons]
      refine ⟨fun x hx => ?_, ih⟩
      obtain ⟨m, hm⟩ := compV_head u l
      rw [hm] at hx ih
      rcases List.mem_cons.1 hx with rfl | hx
      · exact hvu
      · exact V.lt_trans hvu ((List.pairwise_cons.1 ih).1 x hx)
theorem comp_sort (l : List V) : compV (isort l) = sortD l := by
  obtain ⟨a, b⟩ := foldS l [] .nil
  refine sorted_ext _ _ (compV_sorted _ a) (sortD_sorted l) fun x => ?_
  rw [compV_mem, sortD_mem]
  have := b x
  simpa [isort] using this

/-! Atoms and classes. -/
structure At where
  col : Int
  op : Int
  v : V
def At.c (x : At) : List D := [.int .i64 x.col, .int .i64 x.op, .int .i64 x.v.k, .int .i64 x.v.n, .str x.v.t]
def At.a (x : At) : AV := .agg (x.c.map AV.d)
def colX (c : Int) : Ex := .mk 5 0 0 [] c []
def At.ex (x : At) : Ex := if x.op = 5 then colX x.col else if x.op = 21 then .mk 21 0 0 [] 0 [colX x.col] else .mk x.op 0 0 [] 0 [colX x.col, constOf x.v 0]
def At.zero (x : At) : At := ⟨0, x.op, x.v⟩
def At.tr (x : At) (w : V) : Int := (evalV x.zero.ex [w]).tr
def aboutG (c : Int) (l : List At) : List At := l.filter fun a => a.col == c
def trsG (l : List At) (w : V) : List Int := l.map fun a => a.tr w
def maxI : Int := 1000000000000
def goI : List V → List V
  | [] => []
  | v :: rest => (if v.n + 1 ≤ maxI ∧ (match rest with | [] => true | u :: _ => u.n != v.n + 1) = true then [v, ⟨1, v.n + 1, []⟩] else [v]) ++ goI rest
def genI (cs : List V) : List V := (match cs with | [] => [⟨1, -maxI, []⟩] | v :: _ => if v.n > -maxI then [⟨1, -maxI, []⟩] else []) ++ goI cs
def genC (k : Int) (nb : Bool) (cs : List V) : List V :=
  (if k = 1 then genI cs else if k = 2 then [⟨2, 0, []⟩, ⟨2, 1, []⟩] else if k = 3 then cs ++ [⟨3, 0, [48]⟩] else []) ++ (if nb = true then [nulV] else [])
def distG (f : V → List Int) (acc : List V) : List V → List V
  | [] => acc
  | v :: vs => distG f (if (acc.any fun u => f u == f v) = true then acc else acc ++ [v]) vs
theorem distG_app (f : V → List Int) (a b acc : List V) : distG f acc (a ++ b) = distG f (distG f acc a) b := by
  induction a generalizing acc with
  | nil => rfl
  | cons v a ih => simp only [List.cons_append, distG, ih]
def constsG (l : List At) : List V := sortD ((l.filter fun a => a.v.k != 0).map At.v)
def classesG (c k : Int) (nb : Bool) (l : List At) : List V := distG (trsG (aboutG c l)) [] (genC k nb (constsG (aboutG c l)))
end Go.Proofs.Tryz
