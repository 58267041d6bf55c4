/- The law of logic. -/
import Derived.Test.YtnbbnkmaoaogeaaDoorLog
set_option linter.all false
namespace Go.Proofs.Tryd
open Go.Ab

set_option maxHeartbeats 4000000 in
theorem value_logic (a b : V) (n : Int) : Cf En 7 [a.a, b.a, .d (.int .i64 n)] [] (.d (.bool true)) [] := by
  refine cf_intro mix (fn := Tryd.f7) (by kernel_rfl) rfl (by kernel_rfl) (by decide) (by simp) ?_
  simp [V.a]
  (repeat' (first | contradiction | exact .of (by kernel_rfl) | refine And.intro ?_ ?_ | intro _ | (refine agrd_cases (fun h => ?_) (fun h => ?_) <;> (have h' := h; (try simp at h'); simp [h, h']))))
  refine acallT_plain (v_truth a) (by simp [V.a]) ?_
  simp [V.a]
  refine acallT_plain (r_truth a) (by simp [V.a]) ?_
  simp [V.a]
  refine acallT_plain (v_bool n) (by simp [V.a]) ?_
  simp [V.a]
  refine acallT_plain (r_bool n) (by simp [V.a]) ?_
  simp [V.a]
  refine acallT_plain (v_truth a) (by simp [V.a]) ?_
  simp [V.a]
  refine acallT_plain (v_bool a.tr) (by simp [V.a]) ?_
  simp [V.a]
  refine acallT_plain (r_truth a) (by simp [V.a]) ?_
  simp [V.a]
  refine acallT_plain (r_bool a.tr) (by simp [V.a]) ?_
  simp [V.a]
  refine acallT_plain (v_eq a b) (by simp [V.a]) ?_
  simp [V.a]
  refine acallT_plain (r_eq a b) (by simp [V.a]) ?_
  simp [V.a]
  refine acallT_plain (v_less a b) (by simp [V.a]) ?_
  simp [V.a]
  refine acallT_plain (r_less a b) (by simp [V.a]) ?_
  simp [V.a]
  refine acallT_plain (v_and a b) (by simp [V.a]) ?_
  simp [V.a]
  refine acallT_plain (r_and a b) (by simp [V.a]) ?_
  simp [V.a]
  refine acallT_plain (v_or a b) (by simp [V.a]) ?_
  simp [V.a]
  refine acallT_plain (r_or a b) (by simp [V.a]) ?_
  simp [V.a]
  refine acallT_plain (v_not a) (by simp [V.a]) ?_
  simp [V.a]
  refine acallT_plain (r_not a) (by simp [V.a]) ?_
  simp [V.a]
  (repeat' (first | contradiction | exact .of (by kernel_rfl) | refine And.intro ?_ ?_ | intro _ | (refine agrd_cases (fun h => ?_) (fun h => ?_) <;> (have h' := h; (try simp at h'); simp [h, h']))))
end Go.Proofs.Tryd
