/- The laws of logic. -/
import Derived.Test.YtnbbnkmaoaogeaaDoorLog
set_option linter.all false
namespace Go.Proofs.Tryd
open Go.Ab

theorem tr0 : V.tr ⟨2, 0, []⟩ = 0 := by simp [V.tr]
theorem tr1 : V.tr ⟨2, 1, []⟩ = 1 := by simp [V.tr]
theorem tr2 : V.tr nulV = 2 := by simp [V.tr, nulV]
theorem l_dm (a b : V) : orV (notV a) (notV b) = notV (andV a b) := by
  rcases a.tr_cases with h | h | h <;> rcases b.tr_cases with h' | h' | h' <;> simp [andV, orV, notV, h, h', tr0, tr1, tr2]
theorem l_andc (a b : V) : andV b a = andV a b := by
  rcases a.tr_cases with h | h | h <;> rcases b.tr_cases with h' | h' | h' <;> simp [andV, h, h']
theorem l_orc (a b : V) : orV b a = orV a b := by
  rcases a.tr_cases with h | h | h <;> rcases b.tr_cases with h' | h' | h' <;> simp [orV, h, h']
theorem l_anda (a b c : V) : andV (andV a b) c = andV a (andV b c) := by
  rcases a.tr_cases with h | h | h <;> rcases b.tr_cases with h' | h' | h' <;> rcases c.tr_cases with h2 | h2 | h2 <;> simp [andV, h, h', h2, tr0, tr1, tr2]
theorem l_ora (a b c : V) : orV (orV a b) c = orV a (orV b c) := by
  rcases a.tr_cases with h | h | h <;> rcases b.tr_cases with h' | h' | h' <;> rcases c.tr_cases with h2 | h2 | h2 <;> simp [orV, h, h', h2, tr0, tr1, tr2]
theorem l_dist (a b c : V) : orV (andV a b) (andV a c) = andV a (orV b c) := by
  rcases a.tr_cases with h | h | h <;> rcases b.tr_cases with h' | h' | h' <;> rcases c.tr_cases with h2 | h2 | h2 <;> simp [andV, orV, h, h', h2, tr0, tr1, tr2]
theorem l_one (a : V) : (andV ⟨2, 1, []⟩ a).tr = a.tr := by
  rcases a.tr_cases with h | h | h <;> simp [andV, h, tr0, tr1, tr2]

theorem value_duals (a b c : V) : Cf En 3 [a.a, b.a, c.a] [] (.d (.bool true)) [] := by
  refine cf_intro mix (fn := Tryd.f3) (by kernel_rfl) rfl (by kernel_rfl) (by decide) (by simp) ?_
  have e1 := l_dm a b
  have e2 := l_andc a b
  have e3 := l_orc a b
  have e4 := l_anda a b c
  have e5 := l_ora a b c
  have e6 := l_dist a b c
  have e7 := l_one a
  simp [V.a]
  (repeat' (first | contradiction | exact .of (by kernel_rfl) | refine And.intro ?_ ?_ | intro _ | (refine agrd_cases (fun h => ?_) (fun h => ?_) <;> (have h' := h; (try simp at h'); simp [h, h']))))
  refine acallT_plain (v_and a b) (by simp [V.a]) ?_
  simp [V.a]
  refine acallT_plain (v_not (andV a b)) (by simp [V.a]) ?_
  simp [V.a]
  refine acallT_plain (v_not a) (by simp [V.a]) ?_
  simp [V.a]
  refine acallT_plain (v_not b) (by simp [V.a]) ?_
  simp [V.a]
  refine acallT_plain (v_or (notV a) (notV b)) (by simp [V.a]) ?_
  simp [V.a, e1]
  refine acallT_plain (v_and a b) (by simp [V.a]) ?_
  simp [V.a]
  refine acallT_plain (v_and b a) (by simp [V.a]) ?_
  simp [V.a, e2]
  refine acallT_plain (v_or a b) (by simp [V.a]) ?_
  simp [V.a]
  refine acallT_plain (v_or b a) (by simp [V.a]) ?_
  simp [V.a, e3]
  (repeat' (first | contradiction | exact .of (by kernel_rfl) | refine And.intro ?_ ?_ | intro _ | (refine agrd_cases (fun h => ?_) (fun h => ?_) <;> (have h' := h; (try simp at h'); simp [h, h']))))
  refine acallT_plain (v_and b c) (by simp [V.a]) ?_
  simp [V.a]
  refine acallT_plain (v_and a (andV b c)) (by simp [V.a]) ?_
  simp [V.a]
  refine acallT_plain (v_and a b) (by simp [V.a]) ?_
  simp [V.a]
  refine acallT_plain (v_and (andV a b) c) (by simp [V.a]) ?_
  simp [V.a, e4]
  refine acallT_plain (v_or b c) (by simp [V.a]) ?_
  simp [V.a]
  refine acallT_plain (v_or a (orV b c)) (by simp [V.a]) ?_
  simp [V.a]
  refine acallT_plain (v_or a b) (by simp [V.a]) ?_
  simp [V.a]
  refine acallT_plain (v_or (orV a b) c) (by simp [V.a]) ?_
  simp [V.a, e5]
  (repeat' (first | contradiction | exact .of (by kernel_rfl) | refine And.intro ?_ ?_ | intro _ | (refine agrd_cases (fun h => ?_) (fun h => ?_) <;> (have h' := h; (try simp at h'); simp [h, h']))))
  refine acallT_plain (v_or b c) (by simp [V.a]) ?_
  simp [V.a]
  refine acallT_plain (v_and a (orV b c)) (by simp [V.a]) ?_
  simp [V.a]
  refine acallT_plain (v_and a b) (by simp [V.a]) ?_
  simp [V.a]
  refine acallT_plain (v_and a c) (by simp [V.a]) ?_
  simp [V.a]
  refine acallT_plain (v_or (andV a b) (andV a c)) (by simp [V.a]) ?_
  simp [V.a, e6]
  refine acallT_plain (v_bool 1) (by simp [V.a]) ?_
  simp [V.a, boolV1]
  refine acallT_plain (v_and ⟨2, 1, []⟩ a) (by simp [V.a]) ?_
  simp [V.a]
  refine acallT_plain (v_truth (andV ⟨2, 1, []⟩ a)) (by simp [V.a]) ?_
  simp [V.a]
  refine acallT_plain (v_truth a) (by simp [V.a]) ?_
  simp [V.a, e7]
  refine acallT_plain (v_truth a) (by simp [V.a]) ?_
  simp [V.a]
  refine acallT_plain (r_truth a) (by simp [V.a]) ?_
  simp [V.a]
  refine acallT_plain (v_bool 1) (by simp [V.a]) ?_
  simp [V.a, boolV1]
  refine acallT_plain (r_bool 1) (by simp [V.a]) ?_
  simp [V.a, boolV1]
  (repeat' (first | contradiction | exact .of (by kernel_rfl) | refine And.intro ?_ ?_ | intro _ | (refine agrd_cases (fun h => ?_) (fun h => ?_) <;> (have h' := h; (try simp at h'); simp [h, h']))))

theorem l_mono1 (a : V) (n : Int) (hn : n = 0 ∨ n = 1) (h : (andV nulV a).tr ≠ 2) : andV (boolV n) a = andV nulV a := by
  rcases hn with rfl | rfl <;> rcases a.tr_cases with h' | h' | h' <;> simp_all [andV, boolV0, boolV1, tr0, tr1, tr2]
theorem l_mono2 (a : V) (n : Int) (hn : n = 0 ∨ n = 1) (h : (orV nulV a).tr ≠ 2) : orV (boolV n) a = orV nulV a := by
  rcases hn with rfl | rfl <;> rcases a.tr_cases with h' | h' | h' <;> simp_all [orV, boolV0, boolV1, tr0, tr1, tr2]
theorem l_and0 (a : V) : (andV nulV a).tr = 0 ↔ a.tr = 0 := by
  rcases a.tr_cases with h' | h' | h' <;> simp [andV, h', tr0, tr2]
theorem l_or1 (a : V) : (orV nulV a).tr = 1 ↔ a.tr = 1 := by
  rcases a.tr_cases with h' | h' | h' <;> simp [orV, h', tr1, tr2]
theorem mono_end (a : V) : ((andV nulV a).tr == 0) = (a.tr == 0) ∧ ((orV nulV a).tr == 1) = (a.tr == 1) := by
  rcases a.tr_cases with h | h | h <;> simp [andV, orV, h, tr0, tr1, tr2]
set_option maxHeartbeats 4000000 in
theorem value_monotone (a : V) (to : Bool) : Cf En 4 [a.a, .d (.bool to)] [] (.d (.bool true)) [] := by
  refine cf_intro mix (fn := Tryd.f4) (by kernel_rfl) rfl (by kernel_rfl) (by decide) (by simp) ?_
  have q3 : notV nulV = nulV := by simp [notV, tr2]
  obtain ⟨k1, k2⟩ := mono_end a
  cases to
  all_goals
    simp [V.a]
    (repeat' (first | contradiction | exact .of (by kernel_rfl) | refine And.intro ?_ ?_ | intro _ | (refine agrd_cases (fun h => ?_) (fun h => ?_) <;> (have h' := h; (try simp at h'); simp [h, h']))))
    refine acallT_plain (v_and nulV a) (by simp [V.a, nulV]) ?_
    simp [V.a]
    refine acallT_plain (v_or nulV a) (by simp [V.a, nulV]) ?_
    simp [V.a]
    (repeat' (first | contradiction | exact .of (by kernel_rfl) | refine And.intro ?_ ?_ | intro _ | (refine agrd_cases (fun h => ?_) (fun h => ?_) <;> (have h' := h; (try simp at h'); simp [h, h']))))
    refine acallT_plain (v_truth (andV nulV a)) (by simp [V.a]) ?_
    simp [V.a]
  · have m1 := l_mono1 a 0 (by simp)
    have m2 := l_mono2 a 0 (by simp)
    refine agrd_cases (fun h => ?_) (fun h => ?_) <;> (have h1 := h; (try simp at h1); simp [h, h1])
    · refine acallT_plain (v_bool 0) (by simp [V.a]) ?_
      simp [V.a]
      refine acallT_plain (v_and (boolV 0) a) (by simp [V.a]) ?_
      simp [V.a, m1 h1]
      refine acallT_plain (v_truth (orV nulV a)) (by simp [V.a]) ?_
      simp [V.a]
      refine agrd_cases (fun h => ?_) (fun h => ?_) <;> (have h2 := h; (try simp at h2); simp [h, h2])
      · refine acallT_plain (v_bool 0) (by simp [V.a]) ?_
        simp [V.a]
        refine acallT_plain (v_or (boolV 0) a) (by simp [V.a]) ?_
        simp [V.a, m2 h2]
        (repeat' (first | contradiction | exact .of (by kernel_rfl) | refine And.intro ?_ ?_ | intro _ | (refine agrd_cases (fun h => ?_) (fun h => ?_) <;> (have h' := h; (try simp at h'); simp [h, h']))))
        refine acallT_plain (v_truth nulV) (by simp [V.a, nulV]) ?_
        simp [V.a, tr2]
        refine acallT_plain (v_not nulV) (by simp [V.a, nulV]) ?_
        simp [V.a, q3]
        refine acallT_plain (v_truth nulV) (by simp [V.a, nulV]) ?_
        simp [V.a, tr2]
        refine acallT_plain (v_truth (andV nulV a)) (by simp [V.a]) ?_
        simp [V.a]
        refine acallT_plain (v_truth a) (by simp [V.a]) ?_
        simp [V.a, k1]
        refine acallT_plain (v_truth (orV nulV a)) (by simp [V.a]) ?_
        simp [V.a]
        refine acallT_plain (v_truth a) (by simp [V.a]) ?_
        simp [V.a, k2]
        (repeat' (first | contradiction | exact .of (by kernel_rfl) | refine And.intro ?_ ?_ | intro _ | (refine agrd_cases (fun h => ?_) (fun h => ?_) <;> (have h' := h; (try simp at h'); simp [h, h']))))
      · skip
        (repeat' (first | contradiction | exact .of (by kernel_rfl) | refine And.intro ?_ ?_ | intro _ | (refine agrd_cases (fun h => ?_) (fun h => ?_) <;> (have h' := h; (try simp at h'); simp [h, h']))))
        refine acallT_plain (v_truth nulV) (by simp [V.a, nulV]) ?_
        simp [V.a, tr2]
        refine acallT_plain (v_not nulV) (by simp [V.a, nulV]) ?_
        simp [V.a, q3]
        refine acallT_plain (v_truth nulV) (by simp [V.a, nulV]) ?_
        simp [V.a, tr2]
        refine acallT_plain (v_truth (andV nulV a)) (by simp [V.a]) ?_
        simp [V.a]
        refine acallT_plain (v_truth a) (by simp [V.a]) ?_
        simp [V.a, k1]
        refine acallT_plain (v_truth (orV nulV a)) (by simp [V.a]) ?_
        simp [V.a]
        refine acallT_plain (v_truth a) (by simp [V.a]) ?_
        simp [V.a, k2]
        (repeat' (first | contradiction | exact .of (by kernel_rfl) | refine And.intro ?_ ?_ | intro _ | (refine agrd_cases (fun h => ?_) (fun h => ?_) <;> (have h' := h; (try simp at h'); simp [h, h']))))
    · refine acallT_plain (v_truth (orV nulV a)) (by simp [V.a]) ?_
      simp [V.a]
      refine agrd_cases (fun h => ?_) (fun h => ?_) <;> (have h2 := h; (try simp at h2); simp [h, h2])
      · refine acallT_plain (v_bool 0) (by simp [V.a]) ?_
        simp [V.a]
        refine acallT_plain (v_or (boolV 0) a) (by simp [V.a]) ?_
        simp [V.a, m2 h2]
        (repeat' (first | contradiction | exact .of (by kernel_rfl) | refine And.intro ?_ ?_ | intro _ | (refine agrd_cases (fun h => ?_) (fun h => ?_) <;> (have h' := h; (try simp at h'); simp [h, h']))))
        refine acallT_plain (v_truth nulV) (by simp [V.a, nulV]) ?_
        simp [V.a, tr2]
        refine acallT_plain (v_not nulV) (by simp [V.a, nulV]) ?_
        simp [V.a, q3]
        refine acallT_plain (v_truth nulV) (by simp [V.a, nulV]) ?_
        simp [V.a, tr2]
        refine acallT_plain (v_truth (andV nulV a)) (by simp [V.a]) ?_
        simp [V.a]
        refine acallT_plain (v_truth a) (by simp [V.a]) ?_
        simp [V.a, k1]
        refine acallT_plain (v_truth (orV nulV a)) (by simp [V.a]) ?_
        simp [V.a]
        refine acallT_plain (v_truth a) (by simp [V.a]) ?_
        simp [V.a, k2]
        (repeat' (first | contradiction | exact .of (by kernel_rfl) | refine And.intro ?_ ?_ | intro _ | (refine agrd_cases (fun h => ?_) (fun h => ?_) <;> (have h' := h; (try simp at h'); simp [h, h']))))
      · skip
        (repeat' (first | contradiction | exact .of (by kernel_rfl) | refine And.intro ?_ ?_ | intro _ | (refine agrd_cases (fun h => ?_) (fun h => ?_) <;> (have h' := h; (try simp at h'); simp [h, h']))))
        refine acallT_plain (v_truth nulV) (by simp [V.a, nulV]) ?_
        simp [V.a, tr2]
        refine acallT_plain (v_not nulV) (by simp [V.a, nulV]) ?_
        simp [V.a, q3]
        refine acallT_plain (v_truth nulV) (by simp [V.a, nulV]) ?_
        simp [V.a, tr2]
        refine acallT_plain (v_truth (andV nulV a)) (by simp [V.a]) ?_
        simp [V.a]
        refine acallT_plain (v_truth a) (by simp [V.a]) ?_
        simp [V.a, k1]
        refine acallT_plain (v_truth (orV nulV a)) (by simp [V.a]) ?_
        simp [V.a]
        refine acallT_plain (v_truth a) (by simp [V.a]) ?_
        simp [V.a, k2]
        (repeat' (first | contradiction | exact .of (by kernel_rfl) | refine And.intro ?_ ?_ | intro _ | (refine agrd_cases (fun h => ?_) (fun h => ?_) <;> (have h' := h; (try simp at h'); simp [h, h']))))
  · have m1 := l_mono1 a 1 (by simp)
    have m2 := l_mono2 a 1 (by simp)
    refine agrd_cases (fun h => ?_) (fun h => ?_) <;> (have h1 := h; (try simp at h1); simp [h, h1])
    · refine acallT_plain (v_bool 1) (by simp [V.a]) ?_
      simp [V.a]
      refine acallT_plain (v_and (boolV 1) a) (by simp [V.a]) ?_
      simp [V.a, m1 h1]
      refine acallT_plain (v_truth (orV nulV a)) (by simp [V.a]) ?_
      simp [V.a]
      refine agrd_cases (fun h => ?_) (fun h => ?_) <;> (have h2 := h; (try simp at h2); simp [h, h2])
      · refine acallT_plain (v_bool 1) (by simp [V.a]) ?_
        simp [V.a]
        refine acallT_plain (v_or (boolV 1) a) (by simp [V.a]) ?_
        simp [V.a, m2 h2]
        (repeat' (first | contradiction | exact .of (by kernel_rfl) | refine And.intro ?_ ?_ | intro _ | (refine agrd_cases (fun h => ?_) (fun h => ?_) <;> (have h' := h; (try simp at h'); simp [h, h']))))
        refine acallT_plain (v_truth nulV) (by simp [V.a, nulV]) ?_
        simp [V.a, tr2]
        refine acallT_plain (v_not nulV) (by simp [V.a, nulV]) ?_
        simp [V.a, q3]
        refine acallT_plain (v_truth nulV) (by simp [V.a, nulV]) ?_
        simp [V.a, tr2]
        refine acallT_plain (v_truth (andV nulV a)) (by simp [V.a]) ?_
        simp [V.a]
        refine acallT_plain (v_truth a) (by simp [V.a]) ?_
        simp [V.a, k1]
        refine acallT_plain (v_truth (orV nulV a)) (by simp [V.a]) ?_
        simp [V.a]
        refine acallT_plain (v_truth a) (by simp [V.a]) ?_
        simp [V.a, k2]
        (repeat' (first | contradiction | exact .of (by kernel_rfl) | refine And.intro ?_ ?_ | intro _ | (refine agrd_cases (fun h => ?_) (fun h => ?_) <;> (have h' := h; (try simp at h'); simp [h, h']))))
      · skip
        (repeat' (first | contradiction | exact .of (by kernel_rfl) | refine And.intro ?_ ?_ | intro _ | (refine agrd_cases (fun h => ?_) (fun h => ?_) <;> (have h' := h; (try simp at h'); simp [h, h']))))
        refine acallT_plain (v_truth nulV) (by simp [V.a, nulV]) ?_
        simp [V.a, tr2]
        refine acallT_plain (v_not nulV) (by simp [V.a, nulV]) ?_
        simp [V.a, q3]
        refine acallT_plain (v_truth nulV) (by simp [V.a, nulV]) ?_
        simp [V.a, tr2]
        refine acallT_plain (v_truth (andV nulV a)) (by simp [V.a]) ?_
        simp [V.a]
        refine acallT_plain (v_truth a) (by simp [V.a]) ?_
        simp [V.a, k1]
        refine acallT_plain (v_truth (orV nulV a)) (by simp [V.a]) ?_
        simp [V.a]
        refine acallT_plain (v_truth a) (by simp [V.a]) ?_
        simp [V.a, k2]
        (repeat' (first | contradiction | exact .of (by kernel_rfl) | refine And.intro ?_ ?_ | intro _ | (refine agrd_cases (fun h => ?_) (fun h => ?_) <;> (have h' := h; (try simp at h'); simp [h, h']))))
    · refine acallT_plain (v_truth (orV nulV a)) (by simp [V.a]) ?_
      simp [V.a]
      refine agrd_cases (fun h => ?_) (fun h => ?_) <;> (have h2 := h; (try simp at h2); simp [h, h2])
      · refine acallT_plain (v_bool 1) (by simp [V.a]) ?_
        simp [V.a]
        refine acallT_plain (v_or (boolV 1) a) (by simp [V.a]) ?_
        simp [V.a, m2 h2]
        (repeat' (first | contradiction | exact .of (by kernel_rfl) | refine And.intro ?_ ?_ | intro _ | (refine agrd_cases (fun h => ?_) (fun h => ?_) <;> (have h' := h; (try simp at h'); simp [h, h']))))
        refine acallT_plain (v_truth nulV) (by simp [V.a, nulV]) ?_
        simp [V.a, tr2]
        refine acallT_plain (v_not nulV) (by simp [V.a, nulV]) ?_
        simp [V.a, q3]
        refine acallT_plain (v_truth nulV) (by simp [V.a, nulV]) ?_
        simp [V.a, tr2]
        refine acallT_plain (v_truth (andV nulV a)) (by simp [V.a]) ?_
        simp [V.a]
        refine acallT_plain (v_truth a) (by simp [V.a]) ?_
        simp [V.a, k1]
        refine acallT_plain (v_truth (orV nulV a)) (by simp [V.a]) ?_
        simp [V.a]
        refine acallT_plain (v_truth a) (by simp [V.a]) ?_
        simp [V.a, k2]
        (repeat' (first | contradiction | exact .of (by kernel_rfl) | refine And.intro ?_ ?_ | intro _ | (refine agrd_cases (fun h => ?_) (fun h => ?_) <;> (have h' := h; (try simp at h'); simp [h, h']))))
      · skip
        (repeat' (first | contradiction | exact .of (by kernel_rfl) | refine And.intro ?_ ?_ | intro _ | (refine agrd_cases (fun h => ?_) (fun h => ?_) <;> (have h' := h; (try simp at h'); simp [h, h']))))
        refine acallT_plain (v_truth nulV) (by simp [V.a, nulV]) ?_
        simp [V.a, tr2]
        refine acallT_plain (v_not nulV) (by simp [V.a, nulV]) ?_
        simp [V.a, q3]
        refine acallT_plain (v_truth nulV) (by simp [V.a, nulV]) ?_
        simp [V.a, tr2]
        refine acallT_plain (v_truth (andV nulV a)) (by simp [V.a]) ?_
        simp [V.a]
        refine acallT_plain (v_truth a) (by simp [V.a]) ?_
        simp [V.a, k1]
        refine acallT_plain (v_truth (orV nulV a)) (by simp [V.a]) ?_
        simp [V.a]
        refine acallT_plain (v_truth a) (by simp [V.a]) ?_
        simp [V.a, k2]
        (repeat' (first | contradiction | exact .of (by kernel_rfl) | refine And.intro ?_ ?_ | intro _ | (refine agrd_cases (fun h => ?_) (fun h => ?_) <;> (have h' := h; (try simp at h'); simp [h, h']))))
end Go.Proofs.Tryd
