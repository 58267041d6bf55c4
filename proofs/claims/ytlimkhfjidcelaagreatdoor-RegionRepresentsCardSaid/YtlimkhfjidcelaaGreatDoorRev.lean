/- The reference's Eval. -/
import Derived.Test.YtlimkhfjidcelaaGreatDoorReA
import Derived.Test.YtlimkhfjidcelaaGreatDoorReB
import Derived.Test.YtlimkhfjidcelaaGreatDoorReC
import Derived.Test.YtlimkhfjidcelaaGreatDoorReD
set_option linter.all false
namespace Go.Proofs.Tryz
open Go.Ab
set_option maxRecDepth 100000
set_option maxHeartbeats 16000000

theorem reval_step (row : List V) (hrow : row.length ≤ 1000) (o c n g : Int) (t : List UInt8) (ks : List Ex) (hk : ks.length ≤ 12)
    (hrec : ∀ e ∈ ks, Cf En 21 [e.a, .d (.sl (row.map V.c))] [] (evalV e row).a []) :
    Cf En 21 [(Ex.mk o c n t g ks).a, .d (.sl (row.map V.c))] [] (evalV (.mk o c n t g ks) row).a [] := by
    cases hcn : cntd o ks.length
    · refine cf_intro mix (fn := Tryz.f21) (by kernel_rfl) rfl (by kernel_rfl) (by decide) (by simp) ?_
      rw [show evalV (.mk o c n t g ks) row = nulV from by simp [evalV, hcn]]
      by_cases ho1 : o < 1
      · simp [Ex.a, Ex.c, kidsC_map, ho1, nulV, V.a]
        (repeat' (first | contradiction | exact .of (by kernel_rfl) | refine And.intro ?_ ?_ | intro _ | (refine agrd_cases (fun h => ?_) (fun h => ?_) <;> (have h' := h; (try simp at h'); first | done | simp [h, h', ho1] | simp [ho1]))))
      by_cases ho2 : 28 < o
      · simp [Ex.a, Ex.c, kidsC_map, ho1, ho2, nulV, V.a]
        (repeat' (first | contradiction | exact .of (by kernel_rfl) | refine And.intro ?_ ?_ | intro _ | (refine agrd_cases (fun h => ?_) (fun h => ?_) <;> (have h' := h; (try simp at h'); first | done | simp [h, h', ho1, ho2] | simp [ho1, ho2]))))
      have hio : isOp o = true := by unfold isOp; simp; omega
      have hkc := kids_cntd o ks.length hio
      simp [Ex.a, Ex.c, kidsC_map]
      (repeat' (first | contradiction | exact .of (by kernel_rfl) | refine And.intro ?_ ?_ | intro _ | (refine agrd_cases (fun h => ?_) (fun h => ?_) <;> (have h' := h; (try simp at h'); first | done | simp [h, h', ho1, ho2] | simp [ho1, ho2]))))
      refine acallT_plain (r_kids o ks.length) (by simp) ?_
      rw [hkc, hcn]
      simp [nulV, V.a]
      (repeat' (first | contradiction | exact .of (by kernel_rfl) | refine And.intro ?_ ?_ | intro _ | (refine agrd_cases (fun h => ?_) (fun h => ?_) <;> (have h' := h; (try simp at h'); first | done | simp [h, h'] | simp))))
    · have h1 : isOp o = true := by
        unfold cntd at hcn
        simp only [Bool.and_eq_true] at hcn
        exact hcn.1
      have h2 : 1 ≤ o ∧ o ≤ 28 := by simpa [isOp] using h1
      have h3 : o = 1 ∨ o = 2 ∨ o = 3 ∨ o = 4 ∨ o = 5 ∨ o = 6 ∨ o = 7 ∨ o = 8 ∨ o = 9 ∨ o = 10 ∨ o = 11 ∨ o = 12 ∨ o = 13 ∨ o = 14 ∨ o = 15 ∨ o = 16 ∨ o = 17 ∨ o = 18 ∨ o = 19 ∨ o = 20 ∨ o = 21 ∨ o = 22 ∨ o = 23 ∨ o = 24 ∨ o = 25 ∨ o = 26 ∨ o = 27 ∨ o = 28 := by omega
      clear h1 h2
      rcases h3 with rfl | rfl | rfl | rfl | rfl | rfl | rfl | rfl | rfl | rfl | rfl | rfl | rfl | rfl | rfl | rfl | rfl | rfl | rfl | rfl | rfl | rfl | rfl | rfl | rfl | rfl | rfl | rfl
      · exact re_1 row hrow c n g t ks hk hrec hcn
      · exact re_2 row hrow c n g t ks hk hrec hcn
      · exact re_3 row hrow c n g t ks hk hrec hcn
      · exact re_4 row hrow c n g t ks hk hrec hcn
      · exact re_5 row hrow c n g t ks hk hrec hcn
      · exact re_6 row hrow c n g t ks hk hrec hcn
      · exact re_7 row hrow c n g t ks hk hrec hcn
      · exact re_8 row hrow c n g t ks hk hrec hcn
      · exact re_9 row hrow c n g t ks hk hrec hcn
      · exact re_10 row hrow c n g t ks hk hrec hcn
      · exact re_11 row hrow c n g t ks hk hrec hcn
      · exact re_12 row hrow c n g t ks hk hrec hcn
      · exact re_13 row hrow c n g t ks hk hrec hcn
      · exact re_14 row hrow c n g t ks hk hrec hcn
      · exact re_15 row hrow c n g t ks hk hrec hcn
      · exact re_16 row hrow c n g t ks hk hrec hcn
      · exact re_17 row hrow c n g t ks hk hrec hcn
      · exact re_18 row hrow c n g t ks hk hrec hcn
      · exact re_19 row hrow c n g t ks hk hrec hcn
      · exact re_20 row hrow c n g t ks hk hrec hcn
      · exact re_21 row hrow c n g t ks hk hrec hcn
      · exact re_22 row hrow c n g t ks hk hrec hcn
      · exact re_23 row hrow c n g t ks hk hrec hcn
      · exact re_24 row hrow c n g t ks hk hrec hcn
      · exact re_25 row hrow c n g t ks hk hrec hcn
      · exact re_26 row hrow c n g t ks hk hrec hcn
      · exact re_27 row hrow c n g t ks hk hrec hcn
      · exact re_28 row hrow c n g t ks hk hrec hcn
theorem reval_cf (row : List V) (hrow : row.length ≤ 1000) : ∀ (m : Nat) (e : Ex), SizeOf.sizeOf e < m → ∀ q : Nat, e.few q = true → Cf En 21 [e.a, .d (.sl (row.map V.c))] [] (evalV e row).a []
  | 0, _, h, _, _ => absurd h (by omega)
  | m + 1, .mk o c n t g ks, hm, q, hq => by
    obtain ⟨hk, ht, hfew⟩ := few_kids hq
    exact reval_step row hrow o c n g t ks hk fun e he =>
      reval_cf row hrow m e (by have := Ex.kid_lt (e := .mk o c n t g ks) (k := e) he; omega) (q + 1) (hfew e he)
end Go.Proofs.Tryz
