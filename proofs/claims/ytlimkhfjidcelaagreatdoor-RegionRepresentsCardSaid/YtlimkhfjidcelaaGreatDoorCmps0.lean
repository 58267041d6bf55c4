/- The order of values. -/
import Derived.Test.YtlimkhfjidcelaaGreatDoorVal
set_option linter.all false
namespace Go.Proofs.Tryz
open Go.Ab

theorem cmpI_self (a : Int) : cmpI a a = 0 := by unfold cmpI; simp
theorem less_irr : ∀ a : List UInt8, Op.bytesLess a a = false
  | [] => rfl
  | a :: l => by simp [Op.bytesLess, less_irr l]
theorem less_asym : ∀ a b : List UInt8, Op.bytesLess a b = true → Op.bytesLess b a = false
  | [], [], h => by simp [Op.bytesLess] at h
  | [], _ :: _, _ => rfl
  | _ :: _, [], h => by simp [Op.bytesLess] at h
  | x :: a, y :: b, h => by
    simp only [Op.bytesLess, Bool.or_eq_true, decide_eq_true_eq, Bool.and_eq_true, beq_iff_eq, Bool.or_eq_false_iff, decide_eq_false_iff_not] at *
    rcases h with h | ⟨rfl, h⟩
    · refine ⟨fun h2 => ?_, ?_⟩
      · rw [UInt8.lt_iff_toNat_lt] at h h2; omega
      · have : (y == x) = false := by
          rw [beq_eq_false_iff_ne]; rintro rfl; rw [UInt8.lt_iff_toNat_lt] at h; omega
        simp [this]
    · exact ⟨by rw [UInt8.lt_iff_toNat_lt]; omega, by simp [less_asym a b h]⟩
theorem less_tri : ∀ a b : List UInt8, Op.bytesLess a b = false → Op.bytesLess b a = false → a = b
  | [], [], _, _ => rfl
  | [], _ :: _, h, _ => by simp [Op.bytesLess] at h
  | _ :: _, [], _, h => by simp [Op.bytesLess] at h
  | x :: a, y :: b, h1, h2 => by
    simp only [Op.bytesLess, Bool.or_eq_false_iff, decide_eq_false_iff_not, Bool.and_eq_false_imp, beq_iff_eq] at h1 h2
    have : x = y := by
      apply UInt8.toNat_inj.1
      have a1 := h1.1; have a2 := h2.1
      rw [UInt8.lt_iff_toNat_lt] at a1 a2
      omega
    subst this
    rw [less_tri a b (h1.2 rfl) (h2.2 rfl)]
theorem less_trans : ∀ a b c : List UInt8, Op.bytesLess a b = true → Op.bytesLess b c = true → Op.bytesLess a c = true
  | _, [], _, h, _ => by cases ‹List UInt8› <;> simp [Op.bytesLess] at h
  | _, _ :: _, [], _, h => by simp [Op.bytesLess] at h
  | [], _ :: _, _ :: _, _, _ => rfl
  | x :: a, y :: b, z :: c, h1, h2 => by
    simp only [Op.bytesLess, Bool.or_eq_true, decide_eq_true_eq, Bool.and_eq_true, beq_iff_eq] at *
    rcases h1 with h1 | ⟨rfl, h1⟩ <;> rcases h2 with h2 | ⟨rfl, h2⟩
    · left; rw [UInt8.lt_iff_toNat_lt] at *; omega
    · exact .inl h1
    · exact .inl h2
    · exact .inr ⟨rfl, less_trans a b c h1 h2⟩

theorem cmpI_cases (a b : Int) : (a < b ∧ cmpI a b = -1 ∧ cmpI b a = 1) ∨ (a = b ∧ cmpI a b = 0 ∧ cmpI b a = 0) ∨ (b < a ∧ cmpI a b = 1 ∧ cmpI b a = -1) := by
  unfold cmpI; grind
theorem cmpS_cases (a b : List UInt8) : (Op.bytesLess a b = true ∧ cmpS a b = -1 ∧ cmpS b a = 1) ∨ (a = b ∧ cmpS a b = 0 ∧ cmpS b a = 0) ∨ (Op.bytesLess b a = true ∧ cmpS a b = 1 ∧ cmpS b a = -1) := by
  unfold cmpS
  cases h1 : Op.bytesLess a b with
  | true =>
    have h2 := less_asym a b h1
    have : ¬ b = a := fun e => by subst e; rw [less_irr] at h1; cases h1
    simp [h2, this]
  | false =>
    cases h2 : Op.bytesLess b a with
    | true =>
      have : ¬ a = b := fun e => by subst e; rw [less_irr] at h2; cases h2
      simp [this]
    | false =>
      have := less_tri a b h1 h2
      subst this; simp

theorem V.cmp_def (v u : V) : v.cmp u = if cmpI v.k u.k ≠ 0 then cmpI v.k u.k else if cmpI v.n u.n ≠ 0 then cmpI v.n u.n else cmpS v.t u.t := by
  simp only [V.cmp, orOf]; grind
theorem V.cmp_self (v : V) : v.cmp v = 0 := by
  rw [V.cmp_def, cmpI_self, cmpI_self]
  simp [cmpS, less_irr]
theorem V.cmp_neg (v u : V) : u.cmp v = - v.cmp u := by
  rw [V.cmp_def, V.cmp_def]
  rcases cmpI_cases v.k u.k with h | h | h <;> rcases cmpI_cases v.n u.n with h' | h' | h' <;> rcases cmpS_cases v.t u.t with h2 | h2 | h2 <;> simp [h.2, h'.2, h2.2]
theorem V.cmp_rng (v u : V) : v.cmp u = -1 ∨ v.cmp u = 0 ∨ v.cmp u = 1 := by
  rw [V.cmp_def]
  rcases cmpI_cases v.k u.k with h | h | h <;> rcases cmpI_cases v.n u.n with h' | h' | h' <;> rcases cmpS_cases v.t u.t with h2 | h2 | h2 <;> simp [h.2, h'.2, h2.2]
theorem V.same_cmp (v u : V) : v.same u = (v.cmp u == 0) := by
  rw [V.cmp_def, V.same, Bool.eq_iff_iff]
  simp only [Bool.and_eq_true, beq_iff_eq]
  rcases cmpI_cases v.k u.k with h | h | h
  · have : ¬ v.k = u.k := by omega
    simp [h.2, this]
  · rcases cmpI_cases v.n u.n with h' | h' | h'
    · have : ¬ v.n = u.n := by omega
      simp [h.2, h'.2, this]
    · rcases cmpS_cases v.t u.t with h2 | h2 | h2
      · have : ¬ v.t = u.t := fun e => by rw [e, less_irr] at h2; cases h2.1
        simp [h.2, h'.2, h2.2, this]
      · simp only [h.2.1, h'.2.1, h2.2.1]; simp [h.1, h'.1, h2.1]
      · have : ¬ v.t = u.t := fun e => by rw [e, less_irr] at h2; cases h2.1
        simp [h.2, h'.2, h2.2, this]
    · have : ¬ v.n = u.n := by omega
      simp [h.2, h'.2, this]
  · have : ¬ v.k = u.k := by omega
    simp [h.2, this]
theorem cmpI_trans {a b c : Int} (h1 : cmpI a b ≤ 0) (h2 : cmpI b c ≤ 0) : cmpI a c ≤ 0 ∧ (cmpI a c = 0 → cmpI a b = 0 ∧ cmpI b c = 0) := by
  unfold cmpI at *; grind
theorem cmpS_trans {a b c : List UInt8} (h1 : cmpS a b ≤ 0) (h2 : cmpS b c ≤ 0) : cmpS a c ≤ 0 := by
  rcases cmpS_cases a b with x | x | x
  · rcases cmpS_cases b c with y | y | y
    · have := less_trans a b c x.1 y.1
      simp [cmpS, this]
    · rw [← y.1]; omega
    · omega
  · rw [x.1]; exact h2
  · omega
theorem V.cmp_le {v u : V} : v.cmp u ≤ 0 ↔ cmpI v.k u.k < 0 ∨ (cmpI v.k u.k = 0 ∧ (cmpI v.n u.n < 0 ∨ (cmpI v.n u.n = 0 ∧ cmpS v.t u.t ≤ 0))) := by
  rw [V.cmp_def]
  split
  · omega
  · split <;> omega
theorem V.cmp_trans {a b c : V} (h1 : a.cmp b ≤ 0) (h2 : b.cmp c ≤ 0) : a.cmp c ≤ 0 := by
  rw [V.cmp_le] at *
  have k := @cmpI_trans a.k b.k c.k
  have n := @cmpI_trans a.n b.n c.n
  have s := @cmpS_trans a.t b.t c.t
  have k1 : cmpI a.k b.k ≤ 0 := by omega
  have k2 : cmpI b.k c.k ≤ 0 := by omega
  have k3 := k k1 k2
  by_cases e : cmpI a.k c.k = 0
  · have e2 := k3.2 e
    have n1 : cmpI a.n b.n ≤ 0 := by omega
    have n2 : cmpI b.n c.n ≤ 0 := by omega
    have n3 := n n1 n2
    by_cases f : cmpI a.n c.n = 0
    · have f2 := n3.2 f
      exact .inr ⟨e, .inr ⟨f, s (by omega) (by omega)⟩⟩
    · exact .inr ⟨e, .inl (by omega)⟩
  · exact .inl (by omega)

end Go.Proofs.Tryz
