/- Plain schemas that are made. -/
import Derived.Test.YtlimkhfjidcelaaGreatDoorMdp
set_option linter.all false
namespace Go.Proofs.Tryz
open Go.Ab
set_option maxRecDepth 100000
set_option maxHeartbeats 4000000

def nmG (c : UInt8) (k : Nat) : List UInt8 := [c] ++ [UInt8.ofNat (48 + k)]
theorem t_nm (c : UInt8) (k : Nat) (z : Int) (hz : z = k) (hk : k < 10) : Cf En 23 [.d (.str [c]), .d (.int .i64 z)] [] (.d (.str (nmG c k))) [] := by
  subst hz
  refine cf_intro mix (fn := Tryz.f23) (by kernel_rfl) rfl (by kernel_rfl) (by decide) (by simp) ?_
  have h : k = 0 ∨ k = 1 ∨ k = 2 ∨ k = 3 ∨ k = 4 ∨ k = 5 ∨ k = 6 ∨ k = 7 ∨ k = 8 ∨ k = 9 := by omega
  unfold nmG
  rcases h with rfl | rfl | rfl | rfl | rfl | rfl | rfl | rfl | rfl | rfl <;> (simp; (repeat' (first | contradiction | exact .of (by kernel_rfl) | refine And.intro ?_ ?_ | intro _ | (refine agrd_cases (fun h => ?_) (fun h => ?_) <;> (have h' := h; (try simp at h'); first | done | simp [h, h'] | simp))))) <;> (try rfl) <;> (try (simp; rfl)) <;> (try decide)
def upL {α : Type} (f : Nat → α) : Nat → List α
  | 0 => []
  | k + 1 => upL f k ++ [f k]
theorem upL_len {α : Type} (f : Nat → α) : ∀ k, (upL f k).length = k
  | 0 => rfl
  | k + 1 => by rw [upL, List.length_append, upL_len f k]; rfl
theorem upL_get {α : Type} (f : Nat → α) : ∀ (k j : Nat), (upL f k)[j]? = if j < k then some (f j) else none
  | 0, j => by simp [upL]
  | k + 1, j => by
    rw [upL, List.getElem?_append, upL_len, upL_get f k j]
    by_cases h : j < k
    · simp [h]; omega
    · by_cases h2 : j = k
      · subst h2; simp
      · rw [if_neg h, if_neg (by omega), List.getElem?_eq_none (by simp; omega)]
theorem upL_mem {α : Type} {f : Nat → α} {k : Nat} {x : α} (h : x ∈ upL f k) : ∃ j, j < k ∧ x = f j := by
  obtain ⟨j, hj⟩ := List.mem_iff_getElem?.1 h
  rw [upL_get] at hj
  split at hj
  · rename_i hjk; cases hj; exact ⟨j, hjk, rfl⟩
  · cases hj
def idC : Col := ⟨[105, 100], 1, false⟩
def colP (L : List Int) (a k : Nat) : Col := ⟨nmG 99 k, 1 + nextV L (a + 2 * k) 3, nextV L (a + 2 * k + 1) 3 == 0⟩
def fcP (k : Nat) : Col := ⟨nmG 102 k, 1, false⟩
def colsP (L : List Int) (a m z : Nat) : List Col := idC :: (upL (colP L a) m ++ upL fcP z)
def fkP (L : List Int) (b j n k : Nat) : Fk := ⟨[((n + k : Nat) : Int)], nmG 116 (nextV L (b + 2 * k + 1) j).toNat⟩
def fksP (L : List Int) (b j n z : Nat) : List Fk := upL (fkP L b j n) z
def freeP (L : List Int) (a : Nat) : Nat := (1 + nextV L a 2).toNat
def pkN (L : List Int) (b j : Nat) : Nat := if j = 0 then 0 else if nextV L b 3 = 0 then 0 else if nextV L (b + 2) 2 = 0 then 1 else 2
def pkE (L : List Int) (b j : Nat) : Nat := if j = 0 then b else if nextV L b 3 = 0 then b + 1 else if nextV L (b + 2) 2 = 0 then b + 3 else b + 4
def tab0 (L : List Int) (j a : Nat) : Tb := ⟨nmG 116 j, colsP L (a + 1) (freeP L a) (pkN L (a + 1 + 2 * freeP L a) j), [0], [], fksP L (a + 1 + 2 * freeP L a) j (freeP L a + 1) (pkN L (a + 1 + 2 * freeP L a) j), []⟩
def ckP (L : List Int) (x : Tb) (e : Nat) : Tb × Nat := if nextV L e 4 = 0 then (⟨x.n, x.cols, x.pr, x.un, x.fk, [(atomG L x (e + 1)).1.ex]⟩, (atomG L x (e + 1)).2) else (x, e + 1)
def tabP (L : List Int) (j a : Nat) : Tb × Nat := ckP L (tab0 L j a) (pkE L (a + 1 + 2 * freeP L a) j)
def tabsP (L : List Int) (a : Nat) : Nat → List Tb × Nat
  | 0 => ([], a)
  | n + 1 => ((tabsP L a n).1 ++ [(tabP L n (tabsP L a n).2).1], (tabP L n (tabsP L a n).2).2)
theorem tabsP_len (L : List Int) (a : Nat) : ∀ n, (tabsP L a n).1.length = n
  | 0 => rfl
  | n + 1 => by simp [tabsP, tabsP_len L a n]
theorem freeP_in (L : List Int) (a : Nat) : 1 ≤ freeP L a ∧ freeP L a ≤ 2 ∧ ((freeP L a : Nat) : Int) = 1 + nextV L a 2 := by
  have := nextV_in L a (n := 2) (by omega)
  unfold freeP; omega
theorem pkN_le (L : List Int) (b j : Nat) : pkN L b j ≤ 2 := by
  unfold pkN
  repeat' split
  all_goals omega
theorem pkE_le (L : List Int) (b j : Nat) : b ≤ pkE L b j ∧ pkE L b j ≤ b + 4 := by
  unfold pkE
  repeat' split
  all_goals omega
theorem tabP_le (L : List Int) (j a : Nat) : (tabP L j a).2 ≤ a + 15 := by
  have h1 := freeP_in L a
  have h2 := pkE_le L (a + 1 + 2 * freeP L a) j
  have h3 := atom_le L (tab0 L j a) (pkE L (a + 1 + 2 * freeP L a) j + 1)
  unfold tabP ckP
  split
  · simp only; omega
  · simp only; omega
theorem tabsP_le (L : List Int) (a : Nat) : ∀ n, (tabsP L a n).2 ≤ a + 15 * n
  | 0 => by simp [tabsP]
  | n + 1 => by
    have h1 := tabsP_le L a n
    have h2 := tabP_le L n (tabsP L a n).2
    simp only [tabsP]; omega
theorem colsP_len (L : List Int) (a m z : Nat) : (colsP L a m z).length = m + 1 + z := by simp [colsP, upL_len]; omega
theorem fksP_len (L : List Int) (b j n z : Nat) : (fksP L b j n z).length = z := upL_len _ z
theorem colsP_free (L : List Int) (a m : Nat) : colsP L a (m + 1) 0 = colsP L a m 0 ++ [colP L a m] := by simp [colsP, upL]
theorem colsP_succ (L : List Int) (a m z : Nat) : colsP L a m (z + 1) = colsP L a m z ++ [fcP z] := by simp [colsP, upL]
theorem fksP_succ (L : List Int) (b j n z : Nat) : fksP L b j n (z + 1) = fksP L b j n z ++ [fkP L b j n z] := rfl
/-- A table that is made, for atoms. -/
structure Made (x : Tb) : Prop where
  ok : x.ok
  free : 0 < (freeL x x.cols.length).length
  ty : ∀ c ∈ x.cols, c.t = 1 ∨ c.t = 2 ∨ c.t = 3
theorem tab0_made (L : List Int) (j a : Nat) : Made (tab0 L j a) := by
  have h1 := freeP_in L a
  have h2 := pkN_le L (a + 1 + 2 * freeP L a) j
  unfold tab0
  generalize freeP L a = m at *
  generalize pkN L (a + 1 + 2 * m) j = z at *
  refine ⟨⟨by simp only [colsP_len]; omega, by simp, by simp, by simp only [fksP_len]; omega, by simp, fun f hf => ?_⟩, ?_, fun c hc => ?_⟩
  · obtain ⟨k, _, rfl⟩ := upL_mem hf
    simp [fkP]
  · simp only [colsP_len]
    have hm : (1 : Int) ∈ freeL ⟨nmG 116 j, colsP L (a + 1) m z, [0], [], fksP L (a + 1 + 2 * m) j (m + 1) z, []⟩ (m + 1 + z) := by
      unfold freeL
      refine List.mem_map.2 ⟨1, List.mem_filter.2 ⟨List.mem_range.2 (by omega), ?_⟩, rfl⟩
      have : keyT ⟨nmG 116 j, colsP L (a + 1) m z, [0], [], fksP L (a + 1 + 2 * m) j (m + 1) z, []⟩ ((1 : Nat) : Int) = false := by
        unfold keyT
        rw [Bool.or_eq_false_iff]
        refine ⟨by simp, ?_⟩
        rw [List.any_eq_false]
        intro f hf
        obtain ⟨k, _, rfl⟩ := upL_mem hf
        simp [fkP]
        omega
      rw [this]; rfl
    exact List.length_pos_of_mem hm
  · unfold colsP at hc
    rcases List.mem_cons.1 hc with rfl | hc
    · exact .inl rfl
    · rcases List.mem_append.1 hc with hc | hc
      · obtain ⟨k, _, rfl⟩ := upL_mem hc
        have := nextV_in L (a + 1 + 2 * k) (n := 3) (by omega)
        simp only [colP]
        omega
      · obtain ⟨k, _, rfl⟩ := upL_mem hc
        exact .inl rfl
end Go.Proofs.Tryz
