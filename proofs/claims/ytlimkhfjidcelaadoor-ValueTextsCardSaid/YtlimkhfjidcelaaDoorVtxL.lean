/- ValueTexts. -/
import Derived.Test.YtlimkhfjidcelaaDoorVrp
set_option linter.all false
namespace Go.Proofs.Tryd
open Go.Ab
set_option maxRecDepth 100000
set_option maxHeartbeats 2000000

theorem value_texts (v : V) (s : List UInt8) : Cf Ev 6 [v.a, .d (.str s)] [] (.d (.bool true)) [] := by
  refine cf_intro mixv (fn := Tryd.f6) (by kernel_rfl) rfl (by kernel_rfl) (by decide) (by simp) ?_
  by_cases hl : s.length ≤ 200
  · have hl' : ¬ (200 : Int) < s.length := by omega
    have e1 := v_parse s (by omega)
    have e2 := r_parse s (by omega)
    rw [← resP_resR] at e2
    have e3 := v_text5 v
    have e4 := r_text5 v
    have e5 := v_parse (vText v) (by have := vText_len v (fun h => valid_short h); omega)
    have e6 := upv (r_valid v)
    have hback := @resP_text v
    generalize resP s = p at *
    generalize vText v = T at *
    obtain ⟨⟨pk, pn, pt⟩, pe⟩ := p
    cases hV : v.valid with
    | true =>
      rw [hback hV] at e5
      rw [hV] at e6
      clear hback
      obtain ⟨k, n, t⟩ := v
      simp [V.a, hl, hl']
      (repeat refine ⟨.of (by kernel_rfl), ?_⟩)
      refine acallT_plain e1 (by simp) ?_
      simp [V.a]
      (repeat refine ⟨.of (by kernel_rfl), ?_⟩)
      refine acallT_plain e2 (by simp) ?_
      simp [V.a]
      (repeat refine ⟨.of (by kernel_rfl), ?_⟩)
      refine acallT_plain e3 (by simp [V.a]) ?_
      simp [V.a]
      refine acallT_plain e4 (by simp [V.a]) ?_
      simp [V.a]
      (repeat refine ⟨.of (by kernel_rfl), ?_⟩)
      refine acallT_plain e3 (by simp [V.a]) ?_
      simp [V.a]
      refine acallT_plain e5 (by simp [V.a]) ?_
      simp [V.a]
      (repeat refine ⟨.of (by kernel_rfl), ?_⟩)
      refine acallT_plain e6 (by simp [V.a]) ?_
      simp [V.a]
      (repeat' (first | contradiction | exact .of (by kernel_rfl) | refine And.intro ?_ ?_ | intro _ | (refine agrd_cases (fun h => ?_) (fun h => ?_) <;> (have h' := h; (try simp at h'); first | done | simp [h, h'] | simp))))
    | false =>
      rw [hV] at e6
      generalize resP T = r at *
      obtain ⟨⟨rk, rn, rt⟩, re⟩ := r
      clear hback
      obtain ⟨k, n, t⟩ := v
      simp [V.a, hl, hl']
      (repeat refine ⟨.of (by kernel_rfl), ?_⟩)
      refine acallT_plain e1 (by simp) ?_
      simp [V.a]
      (repeat refine ⟨.of (by kernel_rfl), ?_⟩)
      refine acallT_plain e2 (by simp) ?_
      simp [V.a]
      (repeat refine ⟨.of (by kernel_rfl), ?_⟩)
      refine acallT_plain e3 (by simp [V.a]) ?_
      simp [V.a]
      refine acallT_plain e4 (by simp [V.a]) ?_
      simp [V.a]
      (repeat refine ⟨.of (by kernel_rfl), ?_⟩)
      refine acallT_plain e3 (by simp [V.a]) ?_
      simp [V.a]
      refine acallT_plain e5 (by simp [V.a]) ?_
      simp [V.a]
      (repeat refine ⟨.of (by kernel_rfl), ?_⟩)
      refine acallT_plain e6 (by simp [V.a]) ?_
      simp [V.a]
      (repeat' (first | contradiction | exact .of (by kernel_rfl) | refine And.intro ?_ ?_ | intro _ | (refine agrd_cases (fun h => ?_) (fun h => ?_) <;> (have h' := h; (try simp at h'); first | done | simp [h, h'] | simp))))
  · have hl' : (200 : Int) < s.length := by omega
    simp [V.a, hl, hl']
    (repeat' (first | contradiction | exact .of (by kernel_rfl) | refine And.intro ?_ ?_ | intro _ | (refine agrd_cases (fun h => ?_) (fun h => ?_) <;> (have h' := h; (try simp at h'); first | done | simp [h, h', hl'] | simp [hl']))))
end Go.Proofs.Tryd
