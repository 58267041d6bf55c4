/- A term's own fields: the program's conditions; valid terms. -/
import Derived.Test.YtlimkhfjidcelaaDoorVcn
import Derived.Test.YtlimkhfjidcelaaDoorVall
set_option linter.all false
namespace Go.Proofs.Tryd
open Go.Ab
set_option maxRecDepth 100000
set_option maxHeartbeats 2000000

theorem okS_rest (o y n : Int) (t q : List UInt8) : okS o y n t q =
    ((if o = 1 then decide (1 ≤ y) && decide (y ≤ 3) else if o = 2 then (V.mk 1 n []).valid else if o = 3 then n == 0 || n == 1 else if o = 4 then (V.mk 3 0 t).valid else if o = 40 then nameOk words t && (q == [] || nameOk words q) else if o = 41 then decide (1 ≤ n) && decide (n ≤ 6) else true)
      && (Tm.mk 0 (if o = 1 then 0 else y) (if o = 2 ∨ o = 3 ∨ o = 41 then 0 else n) (if o = 4 ∨ o = 40 then [] else t) (if o = 40 then [] else q) []).eq (.mk 0 0 0 [] [] [])) := by
  unfold okS
  rw [Tm.eq, tmsEq]
  by_cases h1 : o = 1
  · subst h1; simp
  by_cases h2 : o = 2
  · subst h2; simp
  by_cases h3 : o = 3
  · subst h3; simp
  by_cases h4 : o = 4
  · subst h4; simp
  by_cases h40 : o = 40
  · subst h40; simp
  by_cases h41 : o = 41
  · subst h41; simp
  simp [h1, h2, h3, h4, h40, h41]
theorem fits0 (o y n : Int) (t q : List UInt8) : (Tm.mk o y n t q []).fits := by rw [Tm.fits, tmsFits]; simp
theorem s_formed : ∀ (m : Nat) (x : Tm), SizeOf.sizeOf x < m → x.fits → Cf Es 39 [x.a] [] (.d (.bool x.right)) []
  | 0, _, h, _ => absurd h (by omega)
  | m + 1, .mk o y n t q ks, hm, hfit => by
    refine cf_intro mixs (fn := Tryd.f39) (by kernel_rfl) rfl (by kernel_rfl) (by decide) (by simp) ?_
    rw [Tm.fits] at hfit
    have hall := all_T 39 Tm.right ks hfit.1 fun x hx => s_formed m x (by
      have := Tm.kid_lt (e := .mk o y n t q ks) (k := x) hx
      omega) (tmsFits_get ks hfit.2 x hx)
    have hcn := s_counted o y n t q ks
    have hv1 := ups (v_valid ⟨1, n, []⟩)
    have hv3 := ups (v_valid ⟨3, 0, t⟩)
    have hn1 := s_name t
    have hn2 := s_name q
    have hsame := fun (y n : Int) (t q : List UInt8) => ups (s_sameTerm _ (.mk 0 y n t q []) (.mk 0 0 0 [] [] []) (Nat.lt_succ_self _) (fits0 0 y n t q))
    rw [Tm.right, okK_eq, tmsRight_all, okS_rest]
    generalize hC : cntOk o n ks.length = C at *
    generalize hK : ks.all Tm.right = K at *
    simp [Tm.a, Tm.c, tmsC_map]
    refine ⟨.of (by kernel_rfl), ?_⟩
    refine acallT_plain hcn (by simp [Tm.a, Tm.c, tmsC_map]) ?_
    simp
    refine agrd_cases (fun h => ?_) (fun h => ?_)
    · obtain rfl : C = true := by simpa using h
      simp
      refine acallT_plain hall (by simp) ?_
      cases K with
      | false =>
        simp
        (repeat' (first | contradiction | exact .of (by kernel_rfl) | refine And.intro ?_ ?_ | intro _ | (refine agrd_cases (fun h => ?_) (fun h => ?_) <;> (have h' := h; (try simp at h'); first | done | simp [h, h'] | simp))))
      | true =>
        clear hall hcn hC hK hm hfit
        simp [Tm.c, tmsC_map]
        refine ⟨.of (by kernel_rfl), .of (by kernel_rfl), .of (by kernel_rfl), .of (by kernel_rfl), ?_⟩
        by_cases h1 : o = 1
        · subst h1
          simp [Tm.c, tmsC_map]
          (repeat' (first | contradiction | exact .of (by kernel_rfl) | refine And.intro ?_ ?_ | intro _ | (refine agrd_cases (fun h => ?_) (fun h => ?_) <;> (have h' := h; (try simp at h'); first | done | simp [h, h', Tm.c, tmsC_map] | simp [Tm.c, tmsC_map]))))
          all_goals first | done | (refine acallT_plain (hsame 0 n t q) (by simp [Tm.a, Tm.c, tmsC_map]) ?_; simp; (repeat' (first | contradiction | exact .of (by kernel_rfl) | refine And.intro ?_ ?_ | intro _ | (refine agrd_cases (fun h => ?_) (fun h => ?_) <;> (have h' := h; (try simp at h'); first | done | simp [h, h'] | simp))))) | skip
          all_goals first | done | (simp_all; done) | (simp_all; omega)
        by_cases h2 : o = 2
        · subst h2
          simp [Tm.c, tmsC_map]
          (repeat' (first | contradiction | exact .of (by kernel_rfl) | refine And.intro ?_ ?_ | intro _ | (refine agrd_cases (fun h => ?_) (fun h => ?_) <;> (have h' := h; (try simp at h'); first | done | simp [h, h', Tm.c, tmsC_map] | simp [Tm.c, tmsC_map]))))
          all_goals first | (refine acallT_plain hv1 (by simp [V.a]) ?_; simp [Tm.c, tmsC_map]; (repeat' (first | contradiction | exact .of (by kernel_rfl) | refine And.intro ?_ ?_ | intro _ | (refine agrd_cases (fun h => ?_) (fun h => ?_) <;> (have h' := h; (try simp at h'); first | done | simp [h, h', Tm.c, tmsC_map] | simp [Tm.c, tmsC_map]))))) | skip
          all_goals first | done | (refine acallT_plain (hsame y 0 t q) (by simp [Tm.a, Tm.c, tmsC_map]) ?_; simp; (repeat' (first | contradiction | exact .of (by kernel_rfl) | refine And.intro ?_ ?_ | intro _ | (refine agrd_cases (fun h => ?_) (fun h => ?_) <;> (have h' := h; (try simp at h'); first | done | simp [h, h'] | simp))))) | skip
          all_goals first | done | (simp_all; done) | (simp_all; omega)
        by_cases h3 : o = 3
        · subst h3
          simp [Tm.c, tmsC_map]
          (repeat' (first | contradiction | exact .of (by kernel_rfl) | refine And.intro ?_ ?_ | intro _ | (refine agrd_cases (fun h => ?_) (fun h => ?_) <;> (have h' := h; (try simp at h'); first | done | simp [h, h', Tm.c, tmsC_map] | simp [Tm.c, tmsC_map]))))
          all_goals first | done | (refine acallT_plain (hsame y 0 t q) (by simp [Tm.a, Tm.c, tmsC_map]) ?_; simp; (repeat' (first | contradiction | exact .of (by kernel_rfl) | refine And.intro ?_ ?_ | intro _ | (refine agrd_cases (fun h => ?_) (fun h => ?_) <;> (have h' := h; (try simp at h'); first | done | simp [h, h'] | simp))))) | skip
          all_goals first | done | (simp_all; done) | (simp_all; omega)
        by_cases h4 : o = 4
        · subst h4
          simp [Tm.c, tmsC_map]
          (repeat' (first | contradiction | exact .of (by kernel_rfl) | refine And.intro ?_ ?_ | intro _ | (refine agrd_cases (fun h => ?_) (fun h => ?_) <;> (have h' := h; (try simp at h'); first | done | simp [h, h', Tm.c, tmsC_map] | simp [Tm.c, tmsC_map]))))
          all_goals first | (refine acallT_plain hv3 (by simp [V.a]) ?_; simp [Tm.c, tmsC_map]; (repeat' (first | contradiction | exact .of (by kernel_rfl) | refine And.intro ?_ ?_ | intro _ | (refine agrd_cases (fun h => ?_) (fun h => ?_) <;> (have h' := h; (try simp at h'); first | done | simp [h, h', Tm.c, tmsC_map] | simp [Tm.c, tmsC_map]))))) | skip
          all_goals first | done | (refine acallT_plain (hsame y n [] q) (by simp [Tm.a, Tm.c, tmsC_map]) ?_; simp; (repeat' (first | contradiction | exact .of (by kernel_rfl) | refine And.intro ?_ ?_ | intro _ | (refine agrd_cases (fun h => ?_) (fun h => ?_) <;> (have h' := h; (try simp at h'); first | done | simp [h, h'] | simp))))) | skip
          all_goals first | done | (simp_all; done) | (simp_all; omega)
        by_cases h40 : o = 40
        · subst h40
          simp [Tm.c, tmsC_map]
          (repeat' (first | contradiction | exact .of (by kernel_rfl) | refine And.intro ?_ ?_ | intro _ | (refine agrd_cases (fun h => ?_) (fun h => ?_) <;> (have h' := h; (try simp at h'); first | done | simp [h, h', Tm.c, tmsC_map] | simp [Tm.c, tmsC_map]))))
          all_goals first | (refine acallT_plain hn1 (by simp [V.a]) ?_; simp [Tm.c, tmsC_map]; (repeat' (first | contradiction | exact .of (by kernel_rfl) | refine And.intro ?_ ?_ | intro _ | (refine agrd_cases (fun h => ?_) (fun h => ?_) <;> (have h' := h; (try simp at h'); first | done | simp [h, h', Tm.c, tmsC_map] | simp [Tm.c, tmsC_map]))))) | skip
          all_goals first | (refine acallT_plain hn2 (by simp [V.a]) ?_; simp [Tm.c, tmsC_map]; (repeat' (first | contradiction | exact .of (by kernel_rfl) | refine And.intro ?_ ?_ | intro _ | (refine agrd_cases (fun h => ?_) (fun h => ?_) <;> (have h' := h; (try simp at h'); first | done | simp [h, h', Tm.c, tmsC_map] | simp [Tm.c, tmsC_map]))))) | skip
          all_goals first | done | (refine acallT_plain (hsame y n [] []) (by simp [Tm.a, Tm.c, tmsC_map]) ?_; simp; (repeat' (first | contradiction | exact .of (by kernel_rfl) | refine And.intro ?_ ?_ | intro _ | (refine agrd_cases (fun h => ?_) (fun h => ?_) <;> (have h' := h; (try simp at h'); first | done | simp [h, h'] | simp))))) | skip
          all_goals first | done | (simp_all; done) | (simp_all; omega)
        by_cases h41 : o = 41
        · subst h41
          simp [Tm.c, tmsC_map]
          (repeat' (first | contradiction | exact .of (by kernel_rfl) | refine And.intro ?_ ?_ | intro _ | (refine agrd_cases (fun h => ?_) (fun h => ?_) <;> (have h' := h; (try simp at h'); first | done | simp [h, h', Tm.c, tmsC_map] | simp [Tm.c, tmsC_map]))))
          all_goals first | done | (refine acallT_plain (hsame y 0 t q) (by simp [Tm.a, Tm.c, tmsC_map]) ?_; simp; (repeat' (first | contradiction | exact .of (by kernel_rfl) | refine And.intro ?_ ?_ | intro _ | (refine agrd_cases (fun h => ?_) (fun h => ?_) <;> (have h' := h; (try simp at h'); first | done | simp [h, h'] | simp))))) | skip
          all_goals first | done | (simp_all; done) | (simp_all; omega)
        simp [h1, h2, h3, h4, h40, h41, Tm.c, tmsC_map]
        (repeat' (first | contradiction | exact .of (by kernel_rfl) | refine And.intro ?_ ?_ | intro _ | (refine agrd_cases (fun h => ?_) (fun h => ?_) <;> (have h' := h; (try simp at h'); first | done | simp [h, h', h1, h2, h3, h4, h40, h41, Tm.c, tmsC_map] | simp [h1, h2, h3, h4, h40, h41, Tm.c, tmsC_map]))))
        all_goals first | done | (refine acallT_plain (hsame y n t q) (by simp [Tm.a, Tm.c, tmsC_map]) ?_; simp; (repeat' (first | contradiction | exact .of (by kernel_rfl) | refine And.intro ?_ ?_ | intro _ | (refine agrd_cases (fun h => ?_) (fun h => ?_) <;> (have h' := h; (try simp at h'); first | done | simp [h, h'] | simp))))) | skip
        all_goals first | done | (simp_all; done) | (simp_all; omega)
    · obtain rfl : C = false := by simpa using h
      simp
      (repeat' (first | contradiction | exact .of (by kernel_rfl) | refine And.intro ?_ ?_ | intro _ | (refine agrd_cases (fun h => ?_) (fun h => ?_) <;> (have h' := h; (try simp at h'); first | done | simp [h, h'] | simp))))
end Go.Proofs.Tryd
