/- Columns: sorted lists without repetition. -/
import Derived.Test.YtnbbnkmaoaogeaaExp
import Derived.Test.YtnbbnkmaoaogeaaSha
import Derived.Test.YtnbbnkmaoaogeaaShf
set_option linter.all false
namespace Go.Proofs.Try
open Go.Ab

theorem up_to_spec (d : Array Int) (hs : ∀ i j, i ≤ j → j < d.size → d[i]! ≤ d[j]!) : ∀ m, m ≤ d.size → (Go.Lib.compactUpTo d m).Pairwise (· < ·) ∧ ∀ x, x ∈ Go.Lib.compactUpTo d m ↔ ∃ j, j < m ∧ d[j]! = x
  | 0, _ => ⟨by simp [Go.Lib.compactUpTo], by simp [Go.Lib.compactUpTo]⟩
  | m + 1, hm => by
    obtain ⟨h1, h2⟩ := up_to_spec d hs m (by omega)
    rw [Go.Lib.compactUpTo_succ]
    cases hk : Go.Lib.keeps d m with
    | true =>
      rw [if_pos rfl]
      have hlt : ∀ x ∈ Go.Lib.compactUpTo d m, x < d[m]! := fun x hx => by
        obtain ⟨j, hj, rfl⟩ := (h2 x).1 hx
        have a1 := hs j (m - 1) (by omega) (by omega)
        have a2 := hs (m - 1) m (by omega) (by omega)
        have a3 : d[m]! ≠ d[m - 1]! := by
          simp only [Go.Lib.keeps, decide_eq_true_eq] at hk
          rcases hk with hk | hk
          · omega
          · exact hk
        omega
      refine ⟨List.pairwise_append.2 ⟨h1, List.pairwise_singleton _ _, fun a ha b hb => ?_⟩, fun x => ?_⟩
      · rw [List.mem_singleton.1 hb]; exact hlt a ha
      · rw [List.mem_append, List.mem_singleton, h2]
        constructor
        · rintro (⟨j, hj, e⟩ | rfl)
          · exact ⟨j, by omega, e⟩
          · exact ⟨m, by omega, rfl⟩
        · rintro ⟨j, hj, e⟩
          by_cases hjm : j = m
          · subst hjm; exact .inr e.symm
          · exact .inl ⟨j, by omega, e⟩
    | false =>
      rw [if_neg (by decide), List.append_nil]
      refine ⟨h1, fun x => ?_⟩
      rw [h2]
      constructor
      · rintro ⟨j, hj, e⟩; exact ⟨j, by omega, e⟩
      · rintro ⟨j, hj, e⟩
        by_cases hjm : j = m
        · subst hjm
          simp only [Go.Lib.keeps, decide_eq_false_iff_not, not_or, Classical.not_not] at hk
          exact ⟨j - 1, by omega, by rw [← e]; exact hk.2.symm⟩
        · exact ⟨j, by omega, e⟩
def srt (l : List Int) : List Int := l.mergeSort fun x y => decide (x ≤ y)
theorem srt_len (l : List Int) : (srt l).length = l.length := List.length_mergeSort _
theorem srt_mem (l : List Int) (x : Int) : x ∈ srt l ↔ x ∈ l := List.mem_mergeSort
theorem srt_le (l : List Int) : (srt l).Pairwise (· ≤ ·) := by
  have := List.pairwise_mergeSort (le := fun x y : Int => decide (x ≤ y)) (fun a b c h1 h2 => by simp at *; omega) (fun a b => by simp; omega) l
  exact this.imp fun h => by simpa using h
theorem compact_spec (l : List Int) (hs : l.Pairwise (· ≤ ·)) : (Go.Lib.compact l).Pairwise (· < ·) ∧ ∀ x, x ∈ Go.Lib.compact l ↔ x ∈ l := by
  have hget : ∀ i j, i ≤ j → j < l.toArray.size → l.toArray[i]! ≤ l.toArray[j]! := fun i j hij hj => by
    have hj' : j < l.length := by simpa using hj
    have hi' : i < l.length := by omega
    rw [getElem!_pos l.toArray i (by simpa using hi'), getElem!_pos l.toArray j hj]
    simp only [List.getElem_toArray]
    rcases Nat.lt_or_ge i j with h | h
    · exact List.pairwise_iff_getElem.1 hs i j hi' hj' h
    · have : i = j := by omega
      subst this; exact Int.le_refl _
  obtain ⟨h1, h2⟩ := up_to_spec l.toArray hget l.length (by simp)
  refine ⟨h1, fun x => (h2 x).trans ?_⟩
  rw [List.mem_iff_getElem]
  constructor
  · rintro ⟨j, hj, e⟩
    refine ⟨j, hj, ?_⟩
    rw [getElem!_pos l.toArray j (by simpa using hj)] at e
    simpa using e
  · rintro ⟨j, hj, e⟩
    refine ⟨j, hj, ?_⟩
    rw [getElem!_pos l.toArray j (by simpa using hj)]
    simpa using e
/-- Two rising lists of the same numbers are one. -/
theorem rising_eq : ∀ (a b : List Int), a.Pairwise (· < ·) → b.Pairwise (· < ·) → (∀ x, x ∈ a ↔ x ∈ b) → a = b
  | [], [], _, _, _ => rfl
  | [], y :: b, _, _, h => absurd ((h y).2 List.mem_cons_self) (by simp)
  | x :: a, [], _, _, h => absurd ((h x).1 List.mem_cons_self) (by simp)
  | x :: a, y :: b, ha, hb, h => by
    rw [List.pairwise_cons] at ha hb
    have hxy : x = y := by
      rcases List.mem_cons.1 ((h x).1 List.mem_cons_self) with e | e
      · exact e
      · rcases List.mem_cons.1 ((h y).2 List.mem_cons_self) with e2 | e2
        · exact e2.symm
        · have := hb.1 x e; have := ha.1 y e2; omega
    subst hxy
    rw [rising_eq a b ha.2 hb.2 fun z => ?_]
    constructor
    · intro hz
      rcases List.mem_cons.1 ((h z).1 (List.mem_cons_of_mem _ hz)) with e | e
      · subst e; exact absurd (ha.1 z hz) (by omega)
      · exact e
    · intro hz
      rcases List.mem_cons.1 ((h z).2 (List.mem_cons_of_mem _ hz)) with e | e
      · subst e; exact absurd (hb.1 z hz) (by omega)
      · exact e
/-- Where a number comes into a rising list. -/
def insAt (l : List Int) (n : Int) : Nat := (l.takeWhile fun x => decide (x < n)).length
def ins (l : List Int) (n : Int) : List Int := if l[insAt l n]? = some n then l else l.take (insAt l n) ++ n :: l.drop (insAt l n)
theorem insAt_spec : ∀ (l : List Int) (n : Int), insAt l n ≤ l.length ∧ (∀ i x, l[i]? = some x → i < insAt l n → x < n) ∧ ∀ x, l[insAt l n]? = some x → n ≤ x
  | [], n => ⟨by simp [insAt], by simp, by simp⟩
  | y :: l, n => by
    obtain ⟨h1, h2, h3⟩ := insAt_spec l n
    unfold insAt at *
    by_cases hy : y < n
    · rw [List.takeWhile_cons_of_pos (by simpa using hy), List.length_cons]
      refine ⟨by simp; omega, fun i x hx hi => ?_, fun x hx => h3 x (by simpa using hx)⟩
      cases i with
      | zero => simp at hx; subst hx; exact hy
      | succ i => exact h2 i x (by simpa using hx) (by omega)
    · rw [List.takeWhile_cons_of_neg (by simpa using hy)]
      refine ⟨by simp, fun i x _ hi => absurd hi (by simp), fun x hx => ?_⟩
      simp at hx; subst hx; omega
theorem ins_spec (l : List Int) (n : Int) (hs : l.Pairwise (· < ·)) : (ins l n).Pairwise (· < ·) ∧ ∀ x, x ∈ ins l n ↔ x = n ∨ x ∈ l := by
  obtain ⟨h1, h2, h3⟩ := insAt_spec l n
  unfold ins
  split
  · rename_i h
    exact ⟨hs, fun x => ⟨.inr, fun hx => by
      rcases hx with rfl | hx
      · exact List.mem_of_getElem? h
      · exact hx⟩⟩
  · rename_i h
    generalize insAt l n = k at *
    have hl : l = l.take k ++ l.drop k := (List.take_append_drop k l).symm
    have hlow : ∀ x ∈ l.take k, x < n := fun x hx => by
      obtain ⟨i, hi⟩ := List.mem_iff_getElem?.1 hx
      rw [List.getElem?_take] at hi
      split at hi
      · exact h2 i x hi (by assumption)
      · cases hi
    have hhigh : ∀ x ∈ l.drop k, n < x := fun x hx => by
      have hp : (l.drop k).Pairwise (· < ·) := hs.sublist (List.drop_sublist k l)
      cases hd : l.drop k with
      | nil => rw [hd] at hx; cases hx
      | cons y r =>
        have hy : l[k]? = some y := by
          have := congrArg (·[0]?) hd
          simpa using this
        have h4 := h3 y hy
        have h5 : y ≠ n := fun e => h (by rw [hy, e])
        rw [hd] at hx hp
        rcases List.mem_cons.1 hx with rfl | hx
        · omega
        · have := (List.pairwise_cons.1 hp).1 x hx; omega
    refine ⟨?_, fun x => ?_⟩
    · rw [List.pairwise_append]
      refine ⟨hs.sublist (List.take_sublist k l), List.pairwise_cons.2 ⟨hhigh, hs.sublist (List.drop_sublist k l)⟩, fun a ha b hb => ?_⟩
      rcases List.mem_cons.1 hb with rfl | hb
      · exact hlow a ha
      · have := hlow a ha; have := hhigh b hb; omega
    · rw [List.mem_append, List.mem_cons]
      constructor
      · rintro (hx | rfl | hx)
        · exact .inr (List.mem_of_mem_take hx)
        · exact .inl rfl
        · exact .inr (List.mem_of_mem_drop hx)
      · rintro (rfl | hx)
        · exact .inr (.inl rfl)
        · rw [hl, List.mem_append] at hx
          rcases hx with hx | hx
          · exact .inl hx
          · exact .inr (.inr hx)
theorem ins_len (l : List Int) (n : Int) : (ins l n).length ≤ l.length + 1 := by
  unfold ins
  split
  · omega
  · simp; omega
mutual
def Ex.cols : Ex → List Int
  | .mk o _ _ _ g ks => Go.Lib.compact (srt ((if o = 5 then [g] else []) ++ colsAll ks))
def colsAll : List Ex → List Int
  | [] => []
  | e :: es => e.cols ++ colsAll es
end
mutual
def Ex.rcols : Ex → List Int
  | .mk o _ _ _ g ks => if o = 5 then ins (rcolsAll [] ks) g else rcolsAll [] ks
def rcolsAll : List Int → List Ex → List Int
  | a, [] => a
  | a, e :: es => rcolsAll (e.rcols.foldl ins a) es
end
mutual
def Ex.has : Ex → Int → Prop
  | .mk o _ _ _ g ks, x => (o = 5 ∧ x = g) ∨ hasAny ks x
def hasAny : List Ex → Int → Prop
  | [], _ => False
  | e :: es, x => e.has x ∨ hasAny es x
end
theorem cols_rising (e : Ex) : e.cols.Pairwise (· < ·) := by
  cases e with
  | mk o c n t g ks => rw [Ex.cols]; exact (compact_spec _ (srt_le _)).1
mutual
theorem cols_mem : ∀ (e : Ex) (x : Int), x ∈ e.cols ↔ e.has x
  | .mk o c n t g ks, x => by
    rw [Ex.cols, (compact_spec _ (srt_le _)).2, srt_mem, List.mem_append, Ex.has, colsAll_mem ks x]
    by_cases h : o = 5 <;> simp [h]
theorem colsAll_mem : ∀ (l : List Ex) (x : Int), x ∈ colsAll l ↔ hasAny l x
  | [], x => by simp [colsAll, hasAny]
  | e :: es, x => by rw [colsAll, List.mem_append, hasAny, cols_mem e x, colsAll_mem es x]
end
theorem foldl_ins : ∀ (l a : List Int), a.Pairwise (· < ·) → (l.foldl ins a).Pairwise (· < ·) ∧ ∀ x, x ∈ l.foldl ins a ↔ x ∈ a ∨ x ∈ l
  | [], a, h => ⟨h, by simp⟩
  | n :: l, a, h => by
    obtain ⟨h1, h2⟩ := ins_spec a n h
    obtain ⟨h3, h4⟩ := foldl_ins l (ins a n) h1
    refine ⟨h3, fun x => ?_⟩
    rw [List.foldl_cons, h4, h2, List.mem_cons]
    constructor
    · rintro ((h | h) | h)
      · exact .inr (.inl h)
      · exact .inl h
      · exact .inr (.inr h)
    · rintro (h | h | h)
      · exact .inl (.inr h)
      · exact .inl (.inl h)
      · exact .inr h
mutual
theorem rcols_spec : ∀ e : Ex, e.rcols.Pairwise (· < ·) ∧ ∀ x, x ∈ e.rcols ↔ e.has x
  | .mk o c n t g ks => by
    obtain ⟨h1, h2⟩ := rcolsAll_spec ks [] List.Pairwise.nil
    rw [Ex.rcols]
    by_cases h : o = 5
    · rw [if_pos h]
      obtain ⟨h3, h4⟩ := ins_spec _ g h1
      refine ⟨h3, fun x => ?_⟩
      rw [h4, h2, Ex.has]
      simp [h]
    · rw [if_neg h]
      refine ⟨h1, fun x => ?_⟩
      rw [h2, Ex.has]
      simp [h]
theorem rcolsAll_spec : ∀ (l : List Ex) (a : List Int), a.Pairwise (· < ·) → (rcolsAll a l).Pairwise (· < ·) ∧ ∀ x, x ∈ rcolsAll a l ↔ x ∈ a ∨ hasAny l x
  | [], a, h => by rw [rcolsAll]; exact ⟨h, by simp [hasAny]⟩
  | e :: es, a, h => by
    obtain ⟨h1, h2⟩ := rcols_spec e
    obtain ⟨h3, h4⟩ := foldl_ins e.rcols a h
    obtain ⟨h5, h6⟩ := rcolsAll_spec es _ h3
    rw [rcolsAll]
    refine ⟨h5, fun x => ?_⟩
    rw [h6, h4, h2, hasAny]
    exact or_assoc
end
theorem cols_eq (e : Ex) : e.rcols = e.cols := rising_eq _ _ (rcols_spec e).1 (cols_rising e) fun x => by rw [(rcols_spec e).2, cols_mem]
/-! Shifting. -/
mutual
theorem has_shift : ∀ (e : Ex) (d x : Int), (e.shift d).has x ↔ ∃ y, e.has y ∧ x = IntKind.i64.wrap (y + d)
  | .mk o c n t g ks, d, x => by
    rw [Ex.shift, Ex.has, hasAny_shift ks d x]
    by_cases h : o = 5
    · simp only [h, true_and, if_true, Ex.has]
      constructor
      · rintro (rfl | ⟨y, hy, e⟩)
        · exact ⟨g, .inl rfl, rfl⟩
        · exact ⟨y, .inr hy, e⟩
      · rintro ⟨y, rfl | hy, e⟩
        · exact .inl e
        · exact .inr ⟨y, hy, e⟩
    · simp [h, Ex.has]
theorem hasAny_shift : ∀ (l : List Ex) (d x : Int), hasAny (shiftAll l d) x ↔ ∃ y, hasAny l y ∧ x = IntKind.i64.wrap (y + d)
  | [], d, x => by simp [shiftAll, hasAny]
  | e :: es, d, x => by
    rw [shiftAll, hasAny, has_shift e d x, hasAny_shift es d x]
    simp only [hasAny]
    constructor
    · rintro (⟨y, hy, e⟩ | ⟨y, hy, e⟩)
      · exact ⟨y, .inl hy, e⟩
      · exact ⟨y, .inr hy, e⟩
    · rintro ⟨y, hy | hy, e⟩
      · exact .inl ⟨y, hy, e⟩
      · exact .inr ⟨y, hy, e⟩
end
end Go.Proofs.Try
