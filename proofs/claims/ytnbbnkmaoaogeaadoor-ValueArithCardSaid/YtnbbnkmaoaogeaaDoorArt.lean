/- The law of arithmetic. -/
import Derived.Test.YtnbbnkmaoaogeaaDoorAri
set_option linter.all false
namespace Go.Proofs.Tryd
open Go.Ab

set_option maxHeartbeats 4000000 in
theorem value_arith (op : Int) (a b : V) : Cf En 5 [.d (.int .i64 op), a.a, b.a] [] (.d (.bool true)) [] := by
  refine cf_intro mix (fn := Tryd.f5) (by kernel_rfl) rfl (by kernel_rfl) (by decide) (by simp) ?_
  simp [V.a]
  (repeat' (first | contradiction | exact .of (by kernel_rfl) | refine And.intro ?_ ?_ | intro _ | (refine agrd_cases (fun h => ?_) (fun h => ?_) <;> (have h' := h; (try simp at h'); simp [h, h']))))
  refine aloopT mix (by decide) (fun i : Nat => { s := mkS [(0, .d (.int .i64 op)), (4, .ptr 4 0 0), (5, .ptr 5 0 0), (7, .d (.int .i64 (i : Nat)))], b := mkB [(4, 4, .var a.a.cells), (5, 5, .var b.a.cells)] }) (fun i : Nat => i ≤ 13) (fun i => 13 - i) 6 (by simp) (sub_mk _ _ ⟨by simp, by simp, by simp [renOf, Blk.live, V.a], by simp⟩ (by simp [renOf])) ?_
  intro i hi
  by_cases hlt : i < 13
  · have hlt' : (i : Int) ≤ 12 := by omega
    simp [hlt', V.a]
    (repeat' (first | contradiction | exact .of (by kernel_rfl) | refine And.intro ?_ ?_ | intro _ | (refine agrd_cases (fun h => ?_) (fun h => ?_) <;> (have h' := h; (try simp at h'); simp [h, h']))))
    refine acallT_plain (v_arith i a b) (by simp [V.a]) ?_
    simp [V.a]
    refine acallT_plain (r_arith i a b) (by simp [V.a]) ?_
    simp [V.a]
    refine acallT_plain (v_arith i a b) (by simp [V.a]) ?_
    simp [V.a]
    refine acallT_plain (v_valid (arV i a b)) (by simp [V.a]) ?_
    simp [arV_valid]
    (repeat' (first | contradiction | exact .of (by kernel_rfl) | refine And.intro ?_ ?_ | intro _ | (refine agrd_cases (fun h => ?_) (fun h => ?_) <;> (have h' := h; (try simp at h'); simp [h, h']))))
    refine ⟨i + 1, hlt, ?_, ?_⟩
    · refine sub_mk _ [(4, 4, _), (5, 5, _)] ⟨by simp, by simp, by simp [renOf, Blk.live, V.a], by simp⟩ ?_
      simp [renOf]
      exact wrap_in (by omega) (by omega)
    · simp; omega
  · have hlt' : ¬ (i : Int) ≤ 12 := by omega
    simp [hlt', V.a]
    (repeat' (first | contradiction | exact .of (by kernel_rfl) | refine And.intro ?_ ?_ | intro _ | (refine agrd_cases (fun h => ?_) (fun h => ?_) <;> (have h' := h; (try simp at h'); simp [h, h']))))
    refine acallT_plain (v_arith op a b) (by simp [V.a]) ?_
    simp [V.a]
    refine acallT_plain (r_arith op a b) (by simp [V.a]) ?_
    simp [V.a]
    (repeat' (first | contradiction | exact .of (by kernel_rfl) | refine And.intro ?_ ?_ | intro _ | (refine agrd_cases (fun h => ?_) (fun h => ?_) <;> (have h' := h; (try simp at h'); simp [h, h']))))
end Go.Proofs.Tryd
