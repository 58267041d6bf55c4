/- Names: the reserved words, found within a text of them or one by one. No program in sight. -/
import Derived.Test.YtlimkhfjidcelaaDoorTy
import Derived.Lib.IndexMore
set_option linter.all false
namespace Go.Proofs.Tryd
open Go.Ab

/-- Words, each behind a space, and a space at the end. -/
def spaced : List (List UInt8) → List UInt8
  | [] => [32]
  | w :: ws => 32 :: (w ++ spaced ws)
/-- Whether a text begins with another somewhere. -/
def within (sub : List UInt8) : List UInt8 → Bool
  | [] => sub.isEmpty
  | b :: l => sub.isPrefixOf (b :: l) || within sub l
theorem within_index (sub : List UInt8) : ∀ l : List UInt8, decide (0 ≤ Lib.index l sub) = within sub l
  | [] => by unfold Lib.index within; cases sub <;> simp
  | b :: l => by
    have ih := within_index sub l
    have hge := Lib.index_ge l sub
    unfold Lib.index within
    cases h : sub.isPrefixOf (b :: l) with
    | true => simp
    | false =>
      rw [← ih]
      simp only [Bool.false_or, Bool.false_eq_true, if_false]
      by_cases h1 : Lib.index l sub = -1
      · simp [h1]
      · have : (Lib.index l sub == -1) = false := by simpa using h1
        rw [this]
        simp
        omega
def plainW (w : List UInt8) : Bool := w.all (· != 32)
theorem within_skip (s : List UInt8) : ∀ (w l : List UInt8), plainW w = true → within (32 :: (s ++ [32])) (w ++ l) = within (32 :: (s ++ [32])) l
  | [], l, _ => rfl
  | b :: w, l, h => by
    simp only [plainW, List.all_cons, Bool.and_eq_true, bne_iff_ne, ne_eq] at h
    have h2 : plainW w = true := h.2
    rw [List.cons_append, within, within_skip s w l h2]
    have : ((32 : UInt8) == b) = false := by simpa using fun e => h.1 e.symm
    simp [List.isPrefixOf, this]
theorem spaced_head (ws : List (List UInt8)) : ∃ l, spaced ws = 32 :: l := by cases ws <;> exact ⟨_, rfl⟩
theorem prefix_word : ∀ (s w l : List UInt8), plainW s = true → plainW w = true → (s ++ [32]).isPrefixOf (w ++ 32 :: l) = (s == w)
  | [], [], l, _, _ => by simp [List.isPrefixOf]
  | [], b :: w, l, _, h => by
    simp only [plainW, List.all_cons, Bool.and_eq_true, bne_iff_ne, ne_eq] at h
    have : ((32 : UInt8) == b) = false := by simpa using fun e => h.1 e.symm
    simp [List.isPrefixOf, this]
  | a :: s, [], l, h, _ => by
    simp only [plainW, List.all_cons, Bool.and_eq_true, bne_iff_ne, ne_eq] at h
    have : (a == (32 : UInt8)) = false := by simpa using h.1
    simp [List.isPrefixOf, this]
  | a :: s, b :: w, l, h1, h2 => by
    simp only [plainW, List.all_cons, Bool.and_eq_true] at h1 h2
    have ih := prefix_word s w l h1.2 h2.2
    simp only [List.cons_append, List.isPrefixOf]
    rw [ih]
    rfl
theorem within_spaced (s : List UInt8) (hs : plainW s = true) : ∀ ws : List (List UInt8), ws.all plainW = true → within (32 :: (s ++ [32])) (spaced ws) = ws.contains s
  | [], _ => by cases s <;> simp [spaced, within, List.isPrefixOf]
  | w :: ws, h => by
    simp only [List.all_cons, Bool.and_eq_true] at h
    rw [spaced, within, within_skip s w _ h.1, within_spaced s hs ws h.2]
    obtain ⟨l, hl⟩ := spaced_head ws
    simp only [List.isPrefixOf, BEq.rfl, Bool.true_and]
    rw [hl, prefix_word s w l hs h.1, Bool.eq_iff_iff]
    simp

def lowr (c : UInt8) : Bool := decide (97 ≤ c.toNat) && decide (c.toNat ≤ 122)
def nameB (c : UInt8) : Bool := lowr c || (decide (48 ≤ c.toNat) && decide (c.toNat ≤ 57) || c.toNat == 95)
theorem nameB_plain {c : UInt8} (h : nameB c = true) : (c != 32) = true := by
  have : c ≠ 32 := by rintro rfl; revert h; decide
  simpa using this
theorem plain_of_name {s : List UInt8} (h : s.all nameB = true) : plainW s = true := by
  rw [List.all_eq_true] at h
  exact List.all_eq_true.2 fun x hx => nameB_plain (h x hx)
def headLow : List UInt8 → Bool
  | [] => false
  | c :: _ => lowr c
/-- A name, where some words are reserved. -/
def nameOk (ws : List (List UInt8)) (s : List UInt8) : Bool := decide (s.length ≤ 16) && (headLow s && (s.all nameB && !ws.contains s))
end Go.Proofs.Tryd
