/- How many operands a term has to have. -/
import Derived.Test.YtlimkhfjidcelaaDoorVsp
set_option linter.all false
namespace Go.Proofs.Tryd
open Go.Ab
set_option maxRecDepth 100000
set_option maxHeartbeats 1000000

def cntOk (o n : Int) (k : Nat) : Bool :=
  if isSop o = true then k == 2
  else if o = 28 then decide (1 < k)
  else if o = 41 ∧ n = 1 then k == 0
  else if o = 41 then k == 1
  else (kidsN o).2 && (k : Int) == (kidsN o).1
theorem s_counted (o y n : Int) (t q : List UInt8) (ks : List Tm) : Cf Es 85 [(Tm.mk o y n t q ks).a] [] (.d (.bool (cntOk o n ks.length))) [] := by
  refine cf_intro mixs (fn := Tryd.f85) (by kernel_rfl) rfl (by kernel_rfl) (by decide) (by simp) ?_
  unfold cntOk
  generalize hk : ks.length = k
  simp [Tm.a, Tm.c, tmsC_map]
  refine ⟨.of (by kernel_rfl), ?_⟩
  refine acallT_plain (s_operatorOf o) (by simp) ?_
  simp [sopA, hk]
  (repeat' (first | contradiction | exact .of (by kernel_rfl) | refine And.intro ?_ ?_ | intro _ | (refine agrd_cases (fun h => ?_) (fun h => ?_) <;> (have h' := h; (try simp at h'); first | done | simp [h, h', hk] | simp [hk]))))
  all_goals first | (refine acallT_plain (s_kids o) (by simp) ?_; simp [hk]; (repeat' (first | contradiction | exact .of (by kernel_rfl) | refine And.intro ?_ ?_ | intro _ | (refine agrd_cases (fun h => ?_) (fun h => ?_) <;> (have h' := h; (try simp at h'); first | done | simp [h, h', hk] | simp [hk]))))) | skip
  all_goals simp_all
  all_goals first | (rw [Bool.eq_iff_iff]; simp only [beq_iff_eq]; omega) | omega
/-- The program's conditions, together. -/
def okS (o y n : Int) (t q : List UInt8) : Bool :=
  if o = 1 then (decide (1 ≤ y) && decide (y ≤ 3)) && (n == 0 && (t == [] && q == []))
  else if o = 2 then (V.mk 1 n []).valid && (y == 0 && (t == [] && q == []))
  else if o = 3 then (n == 0 || n == 1) && (y == 0 && (t == [] && q == []))
  else if o = 4 then (V.mk 3 0 t).valid && (y == 0 && (n == 0 && q == []))
  else if o = 40 then (nameOk words t && (q == [] || nameOk words q)) && (y == 0 && n == 0)
  else if o = 41 then (decide (1 ≤ n) && decide (n ≤ 6)) && (y == 0 && (t == [] && q == []))
  else y == 0 && (n == 0 && (t == [] && q == []))
theorem isSop_eq (o : Int) : isSop o = (decide (6 ≤ o) && (decide (o < 24) && !(o == 11 || (o == 13 || o == 21)))) := by
  by_cases h1 : o < 0
  · unfold isSop
    rw [Bool.eq_iff_iff]; simp; omega
  by_cases h2 : 24 ≤ o
  · unfold isSop
    rw [Bool.eq_iff_iff]; simp; omega
  obtain ⟨n, rfl⟩ : ∃ n : Nat, o = n := ⟨o.toNat, by omega⟩
  rw [isSop_iff n (by omega), Bool.eq_iff_iff]
  simp
  omega
theorem cnt_arity (o n : Int) (k : Nat) (h1 : o ≠ 1) (h2 : o ≠ 2) (h3 : o ≠ 3) (h4 : o ≠ 4) (h5 : o ≠ 40) (h6 : o ≠ 41) : cntOk o n k = arity o k := by
  unfold cntOk
  rw [isSop_eq]
  have e1 : ((k : Int) == 1) = (k == 1) := by rw [Bool.eq_iff_iff]; simp only [beq_iff_eq]; omega
  have e2 : ((k : Int) == 2) = (k == 2) := by rw [Bool.eq_iff_iff]; simp only [beq_iff_eq]; omega
  have e3 : ((k : Int) == 3) = (k == 3) := by rw [Bool.eq_iff_iff]; simp only [beq_iff_eq]; omega
  unfold arity kidsN
  simp only [h1, h2, h3, h4, h5, h6, false_or, false_and, if_false, Bool.and_eq_true, decide_eq_true_eq, Bool.not_eq_true', Bool.or_eq_false_iff, beq_eq_false_iff_ne, ne_eq]
  by_cases c11 : o = 11
  · subst c11; simp [e1]
  by_cases c13 : o = 13
  · subst c13; simp [e1]
  by_cases c21 : o = 21
  · subst c21; simp [e1]
  by_cases c24 : o = 24
  · subst c24; simp [e1]
  by_cases c25 : o = 25
  · subst c25; simp [e1]
  by_cases c26 : o = 26
  · subst c26; simp [e3]
  by_cases c27 : o = 27
  · subst c27; simp [e2]
  by_cases c28 : o = 28
  · subst c28
    simp
    omega
  by_cases c6 : 6 ≤ o
  · by_cases c24' : o < 24
    · have : o ≤ 28 := by omega
      simp [c11, c13, c21, c24, c25, c26, c27, c28, c6, c24', this]
    · have : ¬ o ≤ 28 := by omega
      simp [c11, c13, c21, c24, c25, c26, c27, c28, c6, c24', this]
  · simp [c11, c13, c21, c24, c25, c26, c27, c28, c6]
theorem okK_eq (o y n : Int) (t q : List UInt8) (k : Nat) : okK o y n t q k = (cntOk o n k && okS o y n t q) := by
  by_cases h1 : o = 1
  · subst h1
    unfold okK okS cntOk
    rw [isSop_eq]
    simp [kidsN]
    rw [Bool.eq_iff_iff]; simp; grind
  by_cases h2 : o = 2
  · subst h2
    unfold okK okS cntOk
    rw [isSop_eq]
    simp [kidsN]
    rw [Bool.eq_iff_iff]; simp; grind
  by_cases h3 : o = 3
  · subst h3
    unfold okK okS cntOk
    rw [isSop_eq]
    simp [kidsN]
    rw [Bool.eq_iff_iff]; simp; grind
  by_cases h4 : o = 4
  · subst h4
    unfold okK okS cntOk
    rw [isSop_eq]
    simp [kidsN]
    rw [Bool.eq_iff_iff]; simp; grind
  by_cases h5 : o = 40
  · subst h5
    unfold okK okS cntOk
    rw [isSop_eq]
    simp [kidsN]
    rw [Bool.eq_iff_iff]; simp; grind
  by_cases h6 : o = 41
  · subst h6
    unfold okK okS cntOk
    rw [isSop_eq]
    simp
    rw [Bool.eq_iff_iff]
    split <;> simp <;> grind
  rw [cnt_arity o n k h1 h2 h3 h4 h5 h6]
  unfold okK okS
  rw [if_neg h1, if_neg h2, if_neg h3, if_neg h4, if_neg h5, if_neg h6, if_neg h1, if_neg h2, if_neg h3, if_neg h4, if_neg h5, if_neg h6]
end Go.Proofs.Tryd
