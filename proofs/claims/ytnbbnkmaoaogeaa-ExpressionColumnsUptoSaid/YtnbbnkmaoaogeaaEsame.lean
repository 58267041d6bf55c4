/- ExpressionSame. -/
import Derived.Test.YtnbbnkmaoaogeaaShf
import Derived.Test.YtnbbnkmaoaogeaaRsam
set_option linter.all false
namespace Go.Proofs.Try
open Go.Ab

mutual
def Ex.rng : Ex → Prop
  | .mk _ _ _ _ g ks => -9223372036854775808 ≤ g ∧ g ≤ 9223372036854775807 ∧ rngAll ks
def rngAll : List Ex → Prop
  | [] => True
  | e :: es => e.rng ∧ rngAll es
end
mutual
theorem Ex.eq_self : ∀ e : Ex, e.eq e = true
  | .mk o c n t g ks => by rw [Ex.eq, eqAll_self ks]; simp
theorem eqAll_self : ∀ l : List Ex, eqAll l l = true
  | [] => by rw [eqAll]
  | e :: es => by rw [eqAll, e.eq_self, eqAll_self es]; rfl
end
mutual
theorem Ex.eq_shift : ∀ e : Ex, e.rng → e.eq (e.shift 0) = true
  | .mk o c n t g ks, h => by
    rw [Ex.rng] at h
    rw [Ex.shift, Ex.eq, eqAll_shift ks h.2.2]
    have : IntKind.i64.wrap (g + 0) = g := by rw [Int.add_zero]; exact wrap_in h.1 h.2.1
    rw [this]
    simp
theorem eqAll_shift : ∀ l : List Ex, rngAll l → eqAll l (shiftAll l 0) = true
  | [], _ => by rw [shiftAll, eqAll]
  | e :: es, h => by
    rw [rngAll] at h
    rw [shiftAll, eqAll, e.eq_shift h.1, eqAll_shift es h.2]; rfl
end
theorem const_fits (v : V) (i : Int) : (constOf v i).fits := by
  unfold constOf
  repeat' split
  all_goals (rw [Ex.fits]; simp [fitsAll])

theorem expression_same (x y : Ex) (v : V) (i : Int) (hx : x.fits) (hy : y.fits) (hr : x.rng) : Cf En 3 [x.a, y.a, v.a, .d (.int .i64 i)] [] (.d (.bool true)) [] := by
  refine cf_intro mix (fn := Try.f3) (by kernel_rfl) rfl (by kernel_rfl) (by decide) (by simp) ?_
  have c1 := Ex.clen x
  have c2 := Ex.clen y
  have k1 := Ex.ctake x
  have k2 := Ex.ctake y
  simp [Ex.a, V.a, c1, k1]
  refine ⟨.of (by kernel_rfl), acallT_plain (few_law x hx) (by simp [Ex.a]) ?_⟩
  cases hfx : x.ok with
  | false =>
    simp
    exact ⟨.of (by kernel_rfl), .of (by kernel_rfl)⟩
  | true =>
    simp [c2, k2]
    refine acallT_plain (few_law y hy) (by simp [Ex.a]) ?_
    cases hfy : y.ok with
    | false =>
      simp
      exact ⟨.of (by kernel_rfl), .of (by kernel_rfl)⟩
    | true =>
      have hf0 : x.few 0 = true := by
        unfold Ex.ok at hfx
        simp at hfx
        exact hfx.1
      simp [c1, c2, k1, k2]
      refine ⟨.of (by kernel_rfl), acallT_plain (e_same _ x y (Nat.lt_succ_self _) hx) (by simp [Ex.a]) ?_⟩
      simp [c1, c2, k1, k2]
      refine acallT_plain (re_same _ x y (Nat.lt_succ_self _) hx) (by simp [Ex.a]) ?_
      simp [c1, c2, k1, k2]
      refine acallT_plain (e_same _ x x (Nat.lt_succ_self _) hx) (by simp [Ex.a]) ?_
      simp [c1, c2, k1, k2, Ex.eq_self]
      refine acallT_plain (shift_cf _ x (Nat.lt_succ_self _) 0 hf0 0) (by simp [Ex.a]) ?_
      simp [Ex.a]
      refine acallT_plain (e_same _ x (x.shift 0) (Nat.lt_succ_self _) hx) (by simp [Ex.a]) ?_
      simp [Ex.eq_shift x hr]
      refine acallT_plain (e_const v i) (by simp [V.a]) ?_
      simp [Ex.a]
      refine acallT_plain (r_const v i) (by simp [V.a]) ?_
      simp [Ex.a]
      refine acallT_plain (re_same _ (constOf v i) (constOf v i) (Nat.lt_succ_self _) (const_fits v i)) (by simp [Ex.a]) ?_
      simp [Ex.eq_self]
      exact .of (by kernel_rfl)
end Go.Proofs.Try
