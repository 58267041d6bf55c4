/- Statements: the program's Same. -/
import Derived.Test.YtlimkhfjidcelaaDoorSqs
set_option linter.all false
namespace Go.Proofs.Tryd
open Go.Ab
set_option maxHeartbeats 1000000

theorem s_same : ∀ (m : Nat) (x y : Sm), SizeOf.sizeOf x < m → x.fits → Cf En 13 [x.a, y.a] [] (.d (.bool (x.eq y))) []
  | 0, _, _, h, _ => absurd h (by omega)
  | m + 1, x, y, hm, hfit => by
    refine cf_intro mix (fn := Tryd.f13) (by kernel_rfl) rfl (by kernel_rfl) (by decide) (by simp) ?_
    have hq := fun (a : Sm) (ha : SizeOf.sizeOf a < m) (fa : a.fits) (b : Sm) => s_same m a b ha fa
    obtain ⟨f, al, d, s, is, ft, fq, fn, js, w, g, h, ks⟩ := x
    obtain ⟨f', a', d', s', is', ft', fq', fn', js', w', g', h', ks'⟩ := y
    have hfq : ∀ a ∈ fq, SizeOf.sizeOf a < m := fun a ha => by
      have := Sm.q_lt (e := .mk f al d s is ft fq fn js w g h ks) ha
      omega
    have hks : ∀ a ∈ ks, SizeOf.sizeOf a < m := fun a ha => by
      have := Sm.kid_lt (e := .mk f al d s is ft fq fn js w g h ks) ha
      omega
    have hjs : ∀ j ∈ js, ∀ a ∈ j.qs, SizeOf.sizeOf a < m := fun j hj a ha => by
      have := Sm.j_lt (e := .mk f al d s is ft fq fn js w g h ks) hj
      have := Jo.q_lt ha
      omega
    rw [Sm.fits] at hfit
    obtain ⟨⟨fi1, fi2⟩, ⟨fq1, fq2⟩, ⟨fj1, fj2⟩, ⟨fw1, fw2⟩, ⟨fg1, fg2⟩, ⟨fh1, fh2⟩, fk1, fk2⟩ := hfit
    have e1 := s_sameSource ft fq fn ft' fq' fn' fq1 fun a ha b _ => hq a (hfq a ha) (smsFits_get _ fq2 a ha) b
    have e2 := equal_I 42 is is' fi1 fun x hx y _ => s_sameItem x y (itFits_get fi2 hx)
    have e3 := equal_J 43 js js' fj1 fun x hx y _ => s_sameJoin x y (josFits_get _ fj2 x hx) fun a ha b _ => hq a (hjs x hx a ha) (by
      have := josFits_get _ fj2 x hx
      obtain ⟨k, t, q, n, o⟩ := x
      rw [Jo.fits] at this
      exact smsFits_get _ this.1.2 a ha) b
    have e4 := s_sameTerms w w' fw1 fw2
    have e5 := s_sameTerms g g' fg1 fg2
    have e6 := s_sameTerms h h' fh1 fh2
    have e7 := equal_S 13 ks ks' fk1 fun a ha b _ => hq a (hks a ha) (smsFits_get _ fk2 a ha) b
    rw [Sm.eq, ← soEq, josEq_agree, smsEq_agree ks ks']
    simp [Sm.a, Sm.c, smsC_map, josC_map]
    (repeat' (first | contradiction | exact .of (by kernel_rfl) | refine And.intro ?_ ?_ | intro _ | (refine agrd_cases (fun h => ?_) (fun h => ?_) <;> (have h' := h; (try simp at h'); first | done | simp [h, h', josC_map, smsC_map] | simp [josC_map, smsC_map]))))
    all_goals first | (refine acallT_plain e1 (by simp [soA, soC, smsC_map]) ?_; simp [josC_map, smsC_map]; (repeat' (first | contradiction | exact .of (by kernel_rfl) | refine And.intro ?_ ?_ | intro _ | (refine agrd_cases (fun h => ?_) (fun h => ?_) <;> (have h' := h; (try simp at h'); first | done | simp [h, h', josC_map, smsC_map] | simp [josC_map, smsC_map]))))) | skip
    all_goals first | (refine acallT_plain e2 (by simp) ?_; simp [josC_map, smsC_map]; (repeat' (first | contradiction | exact .of (by kernel_rfl) | refine And.intro ?_ ?_ | intro _ | (refine agrd_cases (fun h => ?_) (fun h => ?_) <;> (have h' := h; (try simp at h'); first | done | simp [h, h', josC_map, smsC_map] | simp [josC_map, smsC_map]))))) | skip
    all_goals first | (refine acallT_plain e3 (by simp) ?_; simp [josC_map, smsC_map]; (repeat' (first | contradiction | exact .of (by kernel_rfl) | refine And.intro ?_ ?_ | intro _ | (refine agrd_cases (fun h => ?_) (fun h => ?_) <;> (have h' := h; (try simp at h'); first | done | simp [h, h', josC_map, smsC_map] | simp [josC_map, smsC_map]))))) | skip
    all_goals first | (refine acallT_plain e4 (by simp) ?_; simp [josC_map, smsC_map]; (repeat' (first | contradiction | exact .of (by kernel_rfl) | refine And.intro ?_ ?_ | intro _ | (refine agrd_cases (fun h => ?_) (fun h => ?_) <;> (have h' := h; (try simp at h'); first | done | simp [h, h', josC_map, smsC_map] | simp [josC_map, smsC_map]))))) | skip
    all_goals first | (refine acallT_plain e5 (by simp) ?_; simp [josC_map, smsC_map]; (repeat' (first | contradiction | exact .of (by kernel_rfl) | refine And.intro ?_ ?_ | intro _ | (refine agrd_cases (fun h => ?_) (fun h => ?_) <;> (have h' := h; (try simp at h'); first | done | simp [h, h', josC_map, smsC_map] | simp [josC_map, smsC_map]))))) | skip
    all_goals first | (refine acallT_plain e6 (by simp) ?_; simp [josC_map, smsC_map]; (repeat' (first | contradiction | exact .of (by kernel_rfl) | refine And.intro ?_ ?_ | intro _ | (refine agrd_cases (fun h => ?_) (fun h => ?_) <;> (have h' := h; (try simp at h'); first | done | simp [h, h', josC_map, smsC_map] | simp [josC_map, smsC_map]))))) | skip
    all_goals first | (refine acallT_plain e7 (by simp) ?_; simp [josC_map, smsC_map]; (repeat' (first | contradiction | exact .of (by kernel_rfl) | refine And.intro ?_ ?_ | intro _ | (refine agrd_cases (fun h => ?_) (fun h => ?_) <;> (have h' := h; (try simp at h'); first | done | simp [h, h', josC_map, smsC_map] | simp [josC_map, smsC_map]))))) | skip
    all_goals simp_all
end Go.Proofs.Tryd
