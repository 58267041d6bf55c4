/- The law of division. -/
import Derived.Test.YtnbbnkmaoaogeaaDoorAri
set_option linter.all false
namespace Go.Proofs.Tryd
open Go.Ab

def numV (n : Int) : V := ⟨1, n, []⟩
theorem numV_valid {n : Int} (h : -1000000000000 ≤ n ∧ n ≤ 1000000000000) : (numV n).valid = true := by
  simp [numV, V.valid, h.1, h.2]
theorem arV_num {op a b : Int} (ha : -1000000000000 ≤ a ∧ a ≤ 1000000000000) (hb : -1000000000000 ≤ b ∧ b ≤ 1000000000000) :
    arV op (numV a) (numV b) = (match numOf op a b with | some n => fitV (numV n) | none => nulV) := by
  unfold arV
  rw [if_pos ⟨numV_valid ha, numV_valid hb, rfl⟩, if_pos (show (numV a).k = 1 from rfl)]; rfl
theorem tmod_in (a : Int) : -1000000000000 ≤ a.tmod 1000000000001 ∧ a.tmod 1000000000001 ≤ 1000000000000 := by
  have := Int.natAbs_tmod a 1000000000001
  have h2 := Nat.mod_lt a.natAbs (show 0 < (1000000000001 : Int).natAbs by decide)
  omega
theorem quo_in {p s : Int} (hp : -1000000000000 ≤ p ∧ p ≤ 1000000000000) : -1000000000000 ≤ p.tdiv s ∧ p.tdiv s ≤ 1000000000000 := by
  have e1 : (p.tdiv s).natAbs ≤ p.natAbs := by rw [Int.natAbs_tdiv]; exact Nat.div_le_self _ _
  omega
theorem mod_in {p s : Int} (hp : -1000000000000 ≤ p ∧ p ≤ 1000000000000) : -1000000000000 ≤ p.tmod s ∧ p.tmod s ≤ 1000000000000 := by
  have e1 : (p.tmod s).natAbs ≤ p.natAbs := by rw [Int.natAbs_tmod]; exact Nat.mod_le _ _
  omega
theorem quo_ok {p s : Int} (hp : -1000000000000 ≤ p ∧ p ≤ 1000000000000) (hs : s ≠ 0) : mulOk (p.tdiv s) s = true := by
  unfold mulOk
  simp only [Bool.or_eq_true, beq_iff_eq, decide_eq_true_eq]
  right; right
  rw [absI_nat, absI_nat, Int.tdiv_eq_ediv_of_nonneg (a := 1000000000000) (by omega), Int.natAbs_tdiv]
  have : p.natAbs / s.natAbs ≤ 1000000000000 / s.natAbs := Nat.div_le_div_right (by omega)
  have e : (1000000000000 : Int) / (s.natAbs : Int) = ((1000000000000 / s.natAbs : Nat) : Int) := by rw [Int.natCast_ediv]; rfl
  rw [e]
  exact Int.ofNat_le.2 this
theorem mod_lt {p s : Int} (hs : s ≠ 0) : (p.tmod s).natAbs < s.natAbs := by
  rw [Int.natAbs_tmod]; exact Nat.mod_lt _ (by omega)
theorem sq_lt {r s : Int} (h : r.natAbs < s.natAbs) : r * r < s * s := by
  have := Nat.mul_self_lt_mul_self h
  rw [← Int.natAbs_mul_self (a := r), ← Int.natAbs_mul_self (a := s)]
  exact_mod_cast this
theorem sq_in {s : Int} (h : -1000000000 ≤ s ∧ s ≤ 1000000000) : 0 ≤ s * s ∧ s * s ≤ 1000000000000000000 := by
  have h1 : s.natAbs ≤ 1000000000 := by omega
  have := Nat.mul_self_le_mul_self h1
  rw [← Int.natAbs_mul_self (a := s)]
  constructor <;> omega
theorem num_a (n : Int) : (numV n).a = .agg [.d (.int .i64 1), .d (.int .i64 n), .d (.str [])] := rfl

@[simp] theorem numV_k (n : Int) : (numV n).k = 1 := rfl
@[simp] theorem numV_n (n : Int) : (numV n).n = n := rfl
@[simp] theorem numV_t (n : Int) : (numV n).t = [] := rfl
set_option maxRecDepth 100000 in
set_option maxHeartbeats 4000000 in
theorem value_divides (a b : Int) : Cf En 6 [.d (.int .i64 a), .d (.int .i64 b)] [] (.d (.bool true)) [] := by
  refine cf_intro mix (fn := Tryd.f6) (by kernel_rfl) rfl (by kernel_rfl) (by decide) (by simp) ?_
  have hp := tmod_in a
  have hs := tmod_in b
  simp
  generalize a.tmod 1000000000001 = p at *
  generalize b.tmod 1000000000001 = s at *
  (repeat' (first | contradiction | exact .of (by kernel_rfl) | refine And.intro ?_ ?_ | intro _ | (refine agrd_cases (fun h => ?_) (fun h => ?_) <;> (have h' := h; (try simp at h'); simp [h, h']))))
  refine acallT_plain (v_arith 9 (numV p) (numV s)) (by simp [num_a]) ?_
  simp [V.a]
  refine acallT_plain (v_arith 10 (numV p) (numV s)) (by simp [num_a]) ?_
  by_cases h0 : s = 0
  · subst h0
    have e9 : arV 9 (numV p) (numV 0) = nulV := by rw [arV_num hp hs]; simp [numOf]
    have e10 : arV 10 (numV p) (numV 0) = nulV := by rw [arV_num hp hs]; simp [numOf]
    have e6 : arV 6 (numV p) (numV 0) = numV p := by rw [arV_num hp hs]; simp [numOf]; exact fit_in hp
    simp [V.a, e9, e10, nulV]
    (repeat' (first | contradiction | exact .of (by kernel_rfl) | refine And.intro ?_ ?_ | intro _ | (refine agrd_cases (fun h => ?_) (fun h => ?_) <;> (have h' := h; (try simp at h'); simp [h, h']))))
    refine acallT_plain (v_arith 6 (numV p) (numV 0)) (by simp [num_a]) ?_
    simp [V.a, e6]
    (repeat' (first | contradiction | exact .of (by kernel_rfl) | refine And.intro ?_ ?_ | intro _ | (refine agrd_cases (fun h => ?_) (fun h => ?_) <;> (have h' := h; (try simp at h'); simp [h, h']))))
  · have hq := quo_in (s := s) hp
    have hm := mod_in (s := s) hp
    have ho := quo_ok hp h0
    have e9 : arV 9 (numV p) (numV s) = numV (p.tdiv s) := by rw [arV_num hp hs]; simp [numOf, h0]; exact fit_in hq
    have e10 : arV 10 (numV p) (numV s) = numV (p.tmod s) := by rw [arV_num hp hs]; simp [numOf, h0]; exact fit_in hm
    have hmul := mul_bound ho
    have e8 : arV 8 (numV (p.tdiv s)) (numV s) = numV (p.tdiv s * s) := by rw [arV_num hq hs]; simp [numOf, ho]; exact fit_in hmul
    have hpp : p.tdiv s * s + p.tmod s = p := by rw [Int.mul_comm]; exact Int.mul_tdiv_add_tmod p s
    have e6 : arV 6 (numV (p.tdiv s * s)) (numV (p.tmod s)) = numV p := by rw [arV_num hmul hm]; simp [numOf, hpp]; exact fit_in hp
    simp [V.a, e9, e10, h0]
    (repeat' (first | contradiction | exact .of (by kernel_rfl) | refine And.intro ?_ ?_ | intro _ | (refine agrd_cases (fun h => ?_) (fun h => ?_) <;> (have h' := h; (try simp at h'); simp [h, h']))))
    refine acallT_plain (v_arith 8 (numV (p.tdiv s)) (numV s)) (by simp [num_a]) ?_
    simp [V.a, e8]
    refine acallT_plain (v_arith 6 (numV (p.tdiv s * s)) (numV (p.tmod s))) (by simp [num_a]) ?_
    simp [V.a, e6]
    by_cases hb : -1000000000 ≤ s ∧ s ≤ 1000000000
    · have hl := mod_lt (p := p) h0
      have q1 := sq_in hb
      have q2 := sq_in (s := p.tmod s) (by omega)
      have q3 := sq_lt hl
      have w1 := wrap_in (n := s * s) (by omega) (by omega)
      have w2 := wrap_in (n := p.tmod s * p.tmod s) (by omega) (by omega)
      simp [w1, w2, q3]
      (repeat' (first | contradiction | exact .of (by kernel_rfl) | refine And.intro ?_ ?_ | intro _ | (refine agrd_cases (fun h => ?_) (fun h => ?_) <;> (have h' := h; (try simp at h'); simp [h, h']))))
    · have hn : ¬ s ≤ 1000000000 ∨ s < -1000000000 := by omega
      (repeat' (first | contradiction | exact .of (by kernel_rfl) | refine And.intro ?_ ?_ | intro _ | (refine agrd_cases (fun h => ?_) (fun h => ?_) <;> (have h' := h; (try simp at h'); simp [h, h']))))
      all_goals first | omega | skip
end Go.Proofs.Tryd
