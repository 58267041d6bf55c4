/- Atoms: their expressions, their order, lists of them. -/
import Derived.Test.YtlimkhfjidcelaaGreatDoorRgp
import Derived.Test.YtlimkhfjidcelaaGreatDoorTbg
import Derived.Test.YtlimkhfjidcelaaGreatDoorRev
set_option linter.all false
namespace Go.Proofs.Tryz
open Go.Ab
set_option maxRecDepth 100000
set_option maxHeartbeats 1000000

@[simp] theorem At.clen (x : At) : x.c.length = 5 := rfl
theorem V.a_eq (v : V) : v.a = .agg (v.c.map AV.d) := rfl
def At.cmp (a b : At) : Int := if a.col < b.col then -1 else if b.col < a.col then 1 else if a.op < b.op then -1 else if b.op < a.op then 1 else a.v.cmp b.v
theorem r13_expr (x : At) : Cf En 19 [x.a] [] x.ex.a [] := by
  refine cf_intro mix (fn := Tryz.f19) (by kernel_rfl) rfl (by kernel_rfl) (by decide) (by simp) ?_
  by_cases h5 : x.op = 5
  · simp [At.a, At.c, h5, At.ex, colX, Ex.a, Ex.c, kidsC]
    (repeat' (first | contradiction | exact .of (by kernel_rfl) | refine And.intro ?_ ?_ | intro _ | (refine agrd_cases (fun h => ?_) (fun h => ?_) <;> (have h' := h; (try simp at h'); first | done | simp [h, h', h5] | simp [h5]))))
  by_cases h21 : x.op = 21
  · simp [At.a, At.c, h21, At.ex, colX, Ex.a, Ex.c, kidsC]
    (repeat' (first | contradiction | exact .of (by kernel_rfl) | refine And.intro ?_ ?_ | intro _ | (refine agrd_cases (fun h => ?_) (fun h => ?_) <;> (have h' := h; (try simp at h'); first | done | simp [h, h', h21] | simp [h21]))))
  simp [At.a, At.c, h5, h21]
  (repeat' (first | contradiction | exact .of (by kernel_rfl) | refine And.intro ?_ ?_ | intro _ | (refine agrd_cases (fun h => ?_) (fun h => ?_) <;> (have h' := h; (try simp at h'); first | done | simp [h, h', h5, h21] | simp [h5, h21]))))
  refine acallT_plain (r_const x.v 0) (by simp [V.a]) ?_
  simp [At.ex, colX, Ex.a, Ex.c, kidsC, h5, h21, Ex.clen, Ex.ctake']
  (repeat' (first | contradiction | exact .of (by kernel_rfl) | refine And.intro ?_ ?_ | intro _ | (refine agrd_cases (fun h => ?_) (fun h => ?_) <;> (have h' := h; (try simp at h'); first | done | simp [h, h', h5, h21] | simp [h5, h21]))))
  all_goals exact List.take_of_length_le (by simp [Ex.clen])
theorem p13_expr (x : At) : Cf En 87 [x.a] [] x.ex.a [] := by
  refine cf_intro mix (fn := Tryz.f87) (by kernel_rfl) rfl (by kernel_rfl) (by decide) (by simp) ?_
  by_cases h5 : x.op = 5
  · simp [At.a, At.c, h5, At.ex, colX, Ex.a, Ex.c, kidsC]
    (repeat' (first | contradiction | exact .of (by kernel_rfl) | refine And.intro ?_ ?_ | intro _ | (refine agrd_cases (fun h => ?_) (fun h => ?_) <;> (have h' := h; (try simp at h'); first | done | simp [h, h', h5] | simp [h5]))))
  by_cases h21 : x.op = 21
  · simp [At.a, At.c, h21, At.ex, colX, Ex.a, Ex.c, kidsC]
    (repeat' (first | contradiction | exact .of (by kernel_rfl) | refine And.intro ?_ ?_ | intro _ | (refine agrd_cases (fun h => ?_) (fun h => ?_) <;> (have h' := h; (try simp at h'); first | done | simp [h, h', h21] | simp [h21]))))
  simp [At.a, At.c, h5, h21]
  (repeat' (first | contradiction | exact .of (by kernel_rfl) | refine And.intro ?_ ?_ | intro _ | (refine agrd_cases (fun h => ?_) (fun h => ?_) <;> (have h' := h; (try simp at h'); first | done | simp [h, h', h5, h21] | simp [h5, h21]))))
  refine acallT_plain (e_const x.v 0) (by simp [V.a]) ?_
  simp [At.ex, colX, Ex.a, Ex.c, kidsC, h5, h21, Ex.clen, Ex.ctake']
  (repeat' (first | contradiction | exact .of (by kernel_rfl) | refine And.intro ?_ ?_ | intro _ | (refine agrd_cases (fun h => ?_) (fun h => ?_) <;> (have h' := h; (try simp at h'); first | done | simp [h, h', h5, h21] | simp [h5, h21]))))
  all_goals exact List.take_of_length_le (by simp [Ex.clen])
theorem r13_cmp (x y : At) : Cf En 76 [x.a, y.a] [] (.d (.int .i64 (x.cmp y))) [] := by
  refine cf_intro mix (fn := Tryz.f76) (by kernel_rfl) rfl (by kernel_rfl) (by decide) (by simp) ?_
  simp [At.a, At.c]
  (repeat' (first | contradiction | exact .of (by kernel_rfl) | refine And.intro ?_ ?_ | intro _ | (refine agrd_cases (fun h => ?_) (fun h => ?_) <;> (have h' := h; (try simp at h'); first | done | simp [h, h'] | simp))))
  all_goals first | (unfold At.cmp; grind) | skip
  refine acallT_plain (r_compare x.v y.v) (by simp [V.a]) ?_
  simp
  (repeat' (first | contradiction | exact .of (by kernel_rfl) | refine And.intro ?_ ?_ | intro _ | (refine agrd_cases (fun h => ?_) (fun h => ?_) <;> (have h' := h; (try simp at h'); first | done | simp [h, h'] | simp))))
  all_goals (unfold At.cmp; grind)
/-- An atom's expression is small. -/
theorem few_ex {x : At} (h : x.v.t.length ≤ 200) (q : Nat) (hq : q ≤ 50) : x.ex.few q = true := by
  have e : ∀ c, (colX c).few (q + 1) = true := fun c => by
    rw [colX, Ex.few, fewAll, if_neg (by omega), if_neg (by simp), if_neg (by simp)]
  have e0 : ∀ c, (colX c).few q = true := fun c => by
    rw [colX, Ex.few, fewAll, if_neg (by omega), if_neg (by simp), if_neg (by simp)]
  have k : (constOf x.v 0).few (q + 1) = true := by
    unfold constOf
    repeat' split
    all_goals (rw [Ex.few, fewAll, if_neg (by omega), if_neg (by simp), if_neg (by simp <;> omega)])
  unfold At.ex
  repeat' split
  · exact e0 _
  · rw [Ex.few, if_neg (by omega), if_neg (by simp), if_neg (by simp)]
    simp [fewAll, e]
  · rw [Ex.few, if_neg (by omega), if_neg (by simp), if_neg (by simp)]
    simp [fewAll, e, k]
theorem r13_truth (x : At) (hx : x.v.t.length ≤ 200) (v : V) : Cf En 42 [x.a, v.a] [] (.d (.int .i64 (x.tr v))) [] := by
  have he := reval_cf [v] (by simp) (SizeOf.sizeOf x.zero.ex + 1) x.zero.ex (by omega) 0 (few_ex (x := x.zero) hx 0 (by omega))
  refine cf_intro mix (fn := Tryz.f42) (by kernel_rfl) rfl (by kernel_rfl) (by decide) (by simp) ?_
  simp [At.a, At.c, V.a]
  (repeat' (first | contradiction | exact .of (by kernel_rfl) | refine And.intro ?_ ?_ | intro _ | (refine agrd_cases (fun h => ?_) (fun h => ?_) <;> (have h' := h; (try simp at h'); first | done | simp [h, h'] | simp))))
  refine acallT_plain (r13_expr x.zero) (by simp [At.a, At.c, At.zero]) ?_
  simp [Ex.a, Ex.ctake, Ex.clen, Ex.ctake']
  (repeat' (first | contradiction | exact .of (by kernel_rfl) | refine And.intro ?_ ?_ | intro _ | (refine agrd_cases (fun h => ?_) (fun h => ?_) <;> (have h' := h; (try simp at h'); first | done | simp [h, h'] | simp))))
  refine acallT_plain he (by simp [Ex.a, V.c, Ex.ctake']) ?_
  simp [V.a]
  refine acallT_plain (r_truth (evalV x.zero.ex [v])) (by simp [V.a]) ?_
  simp [At.tr]
  (repeat' (first | contradiction | exact .of (by kernel_rfl) | refine And.intro ?_ ?_ | intro _ | (refine agrd_cases (fun h => ?_) (fun h => ?_) <;> (have h' := h; (try simp at h'); first | done | simp [h, h'] | simp))))
end Go.Proofs.Tryz
