/- SqlValid. -/
import Derived.Test.YtlimkhfjidcelaaDoorVst
import Derived.Test.YtlimkhfjidcelaaDoorVrt
import Derived.Test.YtlimkhfjidcelaaDoorFew5
set_option linter.all false
namespace Go.Proofs.Tryd
open Go.Ab
set_option maxRecDepth 100000
set_option maxHeartbeats 2000000

theorem l_Few (x : Sm) : Cf Es 7 [x.a] [] (.d (.bool (x.few 0))) [] := by
  refine cf_intro mixs (fn := Tryd.f7) (by kernel_rfl) rfl (by kernel_rfl) (by decide) (by simp) ?_
  have c1 := x.clen
  have k1 := x.ctake
  have h1 := ups (l_few _ x 0 (Nat.lt_succ_self _))
  simp [Sm.a, c1, k1]
  (repeat refine ⟨.of (by kernel_rfl), ?_⟩)
  refine acallT_plain h1 (by simp [Sm.a]) ?_
  simp
  (repeat' (first | contradiction | exact .of (by kernel_rfl) | refine And.intro ?_ ?_ | intro _ | (refine agrd_cases (fun h => ?_) (fun h => ?_) <;> (have h' := h; (try simp at h'); first | done | simp [h, h'] | simp))))
theorem l_FewTerm (x : Tm) : Cf Es 8 [x.a] [] (.d (.bool (x.few 0))) [] := by
  refine cf_intro mixs (fn := Tryd.f8) (by kernel_rfl) rfl (by kernel_rfl) (by decide) (by simp) ?_
  have c1 := x.clen
  have k1 := x.ctake
  have h1 := ups (l_termFew _ x 0 (Nat.lt_succ_self _))
  simp [Tm.a, c1, k1]
  (repeat refine ⟨.of (by kernel_rfl), ?_⟩)
  refine acallT_plain h1 (by simp [Tm.a]) ?_
  simp
  (repeat' (first | contradiction | exact .of (by kernel_rfl) | refine And.intro ?_ ?_ | intro _ | (refine agrd_cases (fun h => ?_) (fun h => ?_) <;> (have h' := h; (try simp at h'); first | done | simp [h, h'] | simp))))
theorem sql_valid (s r : Sm) (t u : Tm) (fs : s.fits) (fr : r.fits) (ft : t.fits) (fu : u.fits) : Cf Es 3 [s.a, r.a, t.a, u.a] [] (.d (.bool true)) [] := by
  refine cf_intro mixs (fn := Tryd.f3) (by kernel_rfl) rfl (by kernel_rfl) (by decide) (by simp) ?_
  have a1 := s.clen
  have a2 := s.ctake
  have b1 := r.clen
  have b2 := r.ctake
  have c1 := t.clen
  have c2 := t.ctake
  have d1 := u.clen
  have d2 := u.ctake
  simp [Sm.a, Tm.a, a1, a2, b1, b2, c1, c2, d1, d2]
  (repeat refine ⟨.of (by kernel_rfl), ?_⟩)
  refine acallT_plain (l_Few s) (by simp [Sm.a]) ?_
  cases h1 : s.few 0 with
  | false =>
    simp
    (repeat' (first | contradiction | exact .of (by kernel_rfl) | refine And.intro ?_ ?_ | intro _ | (refine agrd_cases (fun h => ?_) (fun h => ?_) <;> (have h' := h; (try simp at h'); first | done | simp [h, h'] | simp))))
  | true =>
  simp [a1, a2, b1, b2, c1, c2, d1, d2]
  refine acallT_plain (l_Few r) (by simp [Sm.a]) ?_
  cases h2 : r.few 0 with
  | false =>
    simp
    (repeat' (first | contradiction | exact .of (by kernel_rfl) | refine And.intro ?_ ?_ | intro _ | (refine agrd_cases (fun h => ?_) (fun h => ?_) <;> (have h' := h; (try simp at h'); first | done | simp [h, h'] | simp))))
  | true =>
  simp [a1, a2, b1, b2, c1, c2, d1, d2]
  refine acallT_plain (l_FewTerm t) (by simp [Tm.a]) ?_
  cases h3 : t.few 0 with
  | false =>
    simp
    (repeat' (first | contradiction | exact .of (by kernel_rfl) | refine And.intro ?_ ?_ | intro _ | (refine agrd_cases (fun h => ?_) (fun h => ?_) <;> (have h' := h; (try simp at h'); first | done | simp [h, h'] | simp))))
  | true =>
  simp [a1, a2, b1, b2, c1, c2, d1, d2]
  refine acallT_plain (l_FewTerm u) (by simp [Tm.a]) ?_
  cases h4 : u.few 0 with
  | false =>
    simp
    (repeat' (first | contradiction | exact .of (by kernel_rfl) | refine And.intro ?_ ?_ | intro _ | (refine agrd_cases (fun h => ?_) (fun h => ?_) <;> (have h' := h; (try simp at h'); first | done | simp [h, h'] | simp))))
  | true =>
  simp [a1, a2, b1, b2, c1, c2, d1, d2]
  (repeat refine ⟨.of (by kernel_rfl), ?_⟩)
  have e1 := s_valid s fs (small_of_few _ s h1)
  have e2 := r_valid5 s fs
  have e3 := s_validTerm t ft
  have e4 := r_validTerm t ft
  have e5 := ups (s_same _ s r (Nat.lt_succ_self _) fs)
  have e6 := ups (r_same _ s r (Nat.lt_succ_self _) fs)
  have e7 := ups (s_sameTerm _ t u (Nat.lt_succ_self _) ft)
  have e8 := ups (r_sameTerm _ t u (Nat.lt_succ_self _) ft)
  have e9 := ups (s_same _ s s (Nat.lt_succ_self _) fs)
  have e10 := ups (s_sameTerm _ t t (Nat.lt_succ_self _) ft)
  rw [Sm.eq_self] at e9
  rw [Tm.eq_self] at e10
  refine acallT_plain e1 (by simp [Sm.a]) ?_
  simp [a1, a2, b1, b2, c1, c2, d1, d2]
  refine acallT_plain e2 (by simp [Sm.a]) ?_
  simp [a1, a2, b1, b2, c1, c2, d1, d2]
  refine acallT_plain e3 (by simp [Tm.a]) ?_
  simp [a1, a2, b1, b2, c1, c2, d1, d2]
  refine acallT_plain e4 (by simp [Tm.a]) ?_
  simp [a1, a2, b1, b2, c1, c2, d1, d2]
  refine acallT_plain e5 (by simp [Sm.a]) ?_
  simp [a1, a2, b1, b2, c1, c2, d1, d2]
  refine acallT_plain e6 (by simp [Sm.a]) ?_
  simp [a1, a2, b1, b2, c1, c2, d1, d2]
  refine acallT_plain e7 (by simp [Tm.a]) ?_
  simp [a1, a2, b1, b2, c1, c2, d1, d2]
  refine acallT_plain e8 (by simp [Tm.a]) ?_
  simp [a1, a2, b1, b2, c1, c2, d1, d2]
  refine acallT_plain e9 (by simp [Sm.a]) ?_
  simp [a1, a2, b1, b2, c1, c2, d1, d2]
  refine acallT_plain e10 (by simp [Tm.a]) ?_
  simp
  (repeat' (first | contradiction | exact .of (by kernel_rfl) | refine And.intro ?_ ?_ | intro _ | (refine agrd_cases (fun h => ?_) (fun h => ?_) <;> (have h' := h; (try simp at h'); first | done | simp [h, h'] | simp))))
end Go.Proofs.Tryd
