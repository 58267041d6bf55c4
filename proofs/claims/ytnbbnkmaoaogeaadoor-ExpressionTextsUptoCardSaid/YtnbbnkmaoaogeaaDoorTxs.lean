/- The texts of values. -/
import Derived.Test.YtnbbnkmaoaogeaaDoorStx
set_option linter.all false
namespace Go.Proofs.Tryd
open Go.Ab
set_option maxRecDepth 100000
set_option maxHeartbeats 16000000

def sTrue : List UInt8 := [116, 114, 117, 101]
def sFalse : List UInt8 := [102, 97, 108, 115, 101]
def sNull : List UInt8 := [110, 117, 108, 108]
def textV (v : V) : List UInt8 :=
  if v.valid = true then
    if v.k = 1 then Lib.itoa v.n else if v.k = 2 then (if v.n = 1 then sTrue else sFalse) else if v.k = 3 then 39 :: (v.t ++ [39]) else sNull
  else [63]
theorem up2 {f : FuncId} {xs : List AV} {B : List Blk} {y : AV} {B' : List Blk} (h : Cf En f xs B y B') : Cf Et f xs B y B' := upT (up h)
theorem f_fb0 (b : Bool) : Cf En 94 [.d (.bool b)] [] (.d (.str (if b = true then sTrue else sFalse))) [] := by
  refine cf_intro mix (fn := Tryd.f94) (by kernel_rfl) rfl (by kernel_rfl) (by decide) (by simp) ?_
  cases b
  · simp [sFalse]
    (repeat' (first | contradiction | exact .of (by kernel_rfl) | refine And.intro ?_ ?_ | intro _ | (refine agrd_cases (fun h => ?_) (fun h => ?_) <;> (have h' := h; (try simp at h'); simp [h, h']))))
  · simp [sTrue]
    (repeat' (first | contradiction | exact .of (by kernel_rfl) | refine And.intro ?_ ?_ | intro _ | (refine agrd_cases (fun h => ?_) (fun h => ?_) <;> (have h' := h; (try simp at h'); simp [h, h']))))
theorem f_fb (b : Bool) : Cf En 72 [.d (.bool b)] [] (.d (.str (if b = true then sTrue else sFalse))) [] := by
  refine cf_intro mix (fn := Tryd.f72) (by kernel_rfl) rfl (by kernel_rfl) (by decide) (by simp) ?_
  simp
  (repeat' (first | contradiction | exact .of (by kernel_rfl) | refine And.intro ?_ ?_ | intro _ | (refine agrd_cases (fun h => ?_) (fun h => ?_) <;> (have h' := h; (try simp at h'); simp [h, h']))))
  refine acallT_plain (f_fb0 b) (by simp [V.a]) ?_
  simp
  (repeat' (first | contradiction | exact .of (by kernel_rfl) | refine And.intro ?_ ?_ | intro _ | (refine agrd_cases (fun h => ?_) (fun h => ?_) <;> (have h' := h; (try simp at h'); simp [h, h']))))
theorem v_textOf (v : V) : Cf Et 42 [v.a] [] (.d (.str (textV v))) [] := by
  refine cf_intro mixt (fn := Tryd.f42) (by kernel_rfl) rfl (by kernel_rfl) (by decide) (by simp) ?_
  simp [V.a]
  (repeat' (first | contradiction | exact .of (by kernel_rfl) | refine And.intro ?_ ?_ | intro _ | (refine agrd_cases (fun h => ?_) (fun h => ?_) <;> (have h' := h; (try simp at h'); simp [h, h']))))
  refine acallT_plain (up2 (v_valid v)) (by simp [V.a]) ?_
  cases hv : v.valid
  · simp [textV, hv]
    (repeat' (first | contradiction | exact .of (by kernel_rfl) | refine And.intro ?_ ?_ | intro _ | (refine agrd_cases (fun h => ?_) (fun h => ?_) <;> (have h' := h; (try simp at h'); simp [h, h']))))
  by_cases h1 : v.k = 1
  · have hb := (num_valid hv h1).1
    simp [textV, hv, h1]
    (repeat' (first | contradiction | exact .of (by kernel_rfl) | refine And.intro ?_ ?_ | intro _ | (refine agrd_cases (fun h => ?_) (fun h => ?_) <;> (have h' := h; (try simp at h'); simp [h, h', h1]))))
    refine acallT_plain (f_formatInt v.n (by omega) (by omega)) (by simp) ?_
    simp
    (repeat' (first | contradiction | exact .of (by kernel_rfl) | refine And.intro ?_ ?_ | intro _ | (refine agrd_cases (fun h => ?_) (fun h => ?_) <;> (have h' := h; (try simp at h'); simp [h, h']))))
    all_goals simp [hv, h1]
  by_cases h2 : v.k = 2
  · simp [textV, hv, h1, h2]
    (repeat' (first | contradiction | exact .of (by kernel_rfl) | refine And.intro ?_ ?_ | intro _ | (refine agrd_cases (fun h => ?_) (fun h => ?_) <;> (have h' := h; (try simp at h'); simp [h, h', h1, h2]))))
    refine acallT_plain (up2 (f_fb (v.n == 1))) (by simp) ?_
    simp
    (repeat' (first | contradiction | exact .of (by kernel_rfl) | refine And.intro ?_ ?_ | intro _ | (refine agrd_cases (fun h => ?_) (fun h => ?_) <;> (have h' := h; (try simp at h'); simp [h, h']))))
    all_goals simp [hv, h2]
  by_cases h3 : v.k = 3
  · have hl := (text_valid hv h3).2
    have l1 : v.t.length ≤ 9223372036854775805 := by omega
    have l2 : 1 + v.t.length ≤ 9223372036854775807 := by omega
    have l3 : v.t.length + 1 ≤ 9223372036854775807 := by omega
    simp [textV, hv, h1, h2, h3, l1, l2, l3]
    (repeat' (first | contradiction | exact .of (by kernel_rfl) | refine And.intro ?_ ?_ | intro _ | (refine agrd_cases (fun h => ?_) (fun h => ?_) <;> (have h' := h; (try simp at h'); simp [h, h', h1, h2, h3]))))
  simp [textV, hv, h1, h2, h3]
  (repeat' (first | contradiction | exact .of (by kernel_rfl) | refine And.intro ?_ ?_ | intro _ | (refine agrd_cases (fun h => ?_) (fun h => ?_) <;> (have h' := h; (try simp at h'); simp [h, h', h1, h2, h3]))))
  all_goals simp [sNull]
theorem r_textOf (v : V) : Cf Et 43 [v.a] [] (.d (.str (textV v))) [] := by
  refine cf_intro mixt (fn := Tryd.f43) (by kernel_rfl) rfl (by kernel_rfl) (by decide) (by simp) ?_
  simp [V.a]
  (repeat' (first | contradiction | exact .of (by kernel_rfl) | refine And.intro ?_ ?_ | intro _ | (refine agrd_cases (fun h => ?_) (fun h => ?_) <;> (have h' := h; (try simp at h'); simp [h, h']))))
  refine acallT_plain (up2 (r_valid v)) (by simp [V.a]) ?_
  cases hv : v.valid
  · simp [textV, hv]
    (repeat' (first | contradiction | exact .of (by kernel_rfl) | refine And.intro ?_ ?_ | intro _ | (refine agrd_cases (fun h => ?_) (fun h => ?_) <;> (have h' := h; (try simp at h'); simp [h, h']))))
  by_cases h1 : v.k = 1
  · have hb := (num_valid hv h1).1
    simp [textV, hv, h1]
    (repeat' (first | contradiction | exact .of (by kernel_rfl) | refine And.intro ?_ ?_ | intro _ | (refine agrd_cases (fun h => ?_) (fun h => ?_) <;> (have h' := h; (try simp at h'); simp [h, h', h1]))))
    refine acallT_plain (f_formatInt v.n (by omega) (by omega)) (by simp) ?_
    simp
    (repeat' (first | contradiction | exact .of (by kernel_rfl) | refine And.intro ?_ ?_ | intro _ | (refine agrd_cases (fun h => ?_) (fun h => ?_) <;> (have h' := h; (try simp at h'); simp [h, h']))))
    all_goals simp [hv, h1]
  by_cases h2 : v.k = 2
  · by_cases hn : v.n = 1
    · simp [textV, hv, h1, h2, hn, sTrue]
      (repeat' (first | contradiction | exact .of (by kernel_rfl) | refine And.intro ?_ ?_ | intro _ | (refine agrd_cases (fun h => ?_) (fun h => ?_) <;> (have h' := h; (try simp at h'); simp [h, h', h1, h2, hn]))))
    · simp [textV, hv, h1, h2, hn, sFalse]
      (repeat' (first | contradiction | exact .of (by kernel_rfl) | refine And.intro ?_ ?_ | intro _ | (refine agrd_cases (fun h => ?_) (fun h => ?_) <;> (have h' := h; (try simp at h'); simp [h, h', h1, h2, hn]))))
  by_cases h3 : v.k = 3
  · have hl := (text_valid hv h3).2
    have l1 : v.t.length ≤ 9223372036854775805 := by omega
    have l2 : 1 + v.t.length ≤ 9223372036854775807 := by omega
    have l3 : v.t.length + 1 ≤ 9223372036854775807 := by omega
    simp [textV, hv, h1, h2, h3, l1, l2, l3]
    (repeat' (first | contradiction | exact .of (by kernel_rfl) | refine And.intro ?_ ?_ | intro _ | (refine agrd_cases (fun h => ?_) (fun h => ?_) <;> (have h' := h; (try simp at h'); simp [h, h', h1, h2, h3]))))
  simp [textV, hv, h1, h2, h3]
  (repeat' (first | contradiction | exact .of (by kernel_rfl) | refine And.intro ?_ ?_ | intro _ | (refine agrd_cases (fun h => ?_) (fun h => ?_) <;> (have h' := h; (try simp at h'); simp [h, h', h1, h2, h3]))))
  all_goals simp [sNull]
end Go.Proofs.Tryd
