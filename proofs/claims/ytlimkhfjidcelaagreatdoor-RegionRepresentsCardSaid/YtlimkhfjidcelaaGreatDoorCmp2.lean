/- The library's sort and compaction of few values. -/
import Derived.Test.YtlimkhfjidcelaaGreatDoorSrt
set_option linter.all false
namespace Go.Proofs.Tryz
open Go.Ab
set_option maxRecDepth 100000
set_option maxHeartbeats 2000000

def lenB (n : Nat) : Int := if n = 0 then 0 else if n = 1 then 1 else if n ≤ 3 then 2 else if n ≤ 7 then 3 else 4
theorem bits_len64 (n : Nat) (h : n ≤ 12) : Cf En 148 [.d (.int .u64 n)] [] (.d (.int .i64 (lenB n))) [] := by
  refine cf_intro mix (fn := Tryz.f148) (by kernel_rfl) rfl (by kernel_rfl) (by decide) (by simp) ?_
  rcases (by omega : n = 0 ∨ n = 1 ∨ n = 2 ∨ n = 3 ∨ n = 4 ∨ n = 5 ∨ n = 6 ∨ n = 7 ∨ n = 8 ∨ n = 9 ∨ n = 10 ∨ n = 11 ∨ n = 12) with rfl | rfl | rfl | rfl | rfl | rfl | rfl | rfl | rfl | rfl | rfl | rfl | rfl
  all_goals
    simp [show ∀ k : Nat, k ≤ 12 → IntKind.u8.wrap k = k from by decide, show IntKind.u8.wrap 0 = 0 from by decide, show IntKind.u8.wrap 1 = 1 from by decide, show IntKind.u8.wrap 2 = 2 from by decide, show IntKind.u8.wrap 3 = 3 from by decide, show IntKind.u8.wrap 4 = 4 from by decide, show IntKind.u8.wrap 5 = 5 from by decide, show IntKind.u8.wrap 6 = 6 from by decide, show IntKind.u8.wrap 7 = 7 from by decide, show IntKind.u8.wrap 8 = 8 from by decide, show IntKind.u8.wrap 9 = 9 from by decide, show IntKind.u8.wrap 10 = 10 from by decide, show IntKind.u8.wrap 11 = 11 from by decide, show IntKind.u8.wrap 12 = 12 from by decide, show IntKind.i64.wrap 0 = 0 from by decide, show IntKind.i64.wrap 1 = 1 from by decide, show IntKind.i64.wrap 2 = 2 from by decide, show IntKind.i64.wrap 3 = 3 from by decide, show IntKind.i64.wrap 4 = 4 from by decide]
    (repeat' (first | contradiction | exact .of (by kernel_rfl) | refine And.intro ?_ ?_ | intro _ | (refine agrd_cases (fun h => ?_) (fun h => ?_) <;> (have h' := h; (try simp at h'); first | done | simp [h, h'] | simp))))
    all_goals (first | rfl | decide)
theorem bits_len (n : Nat) (h : n ≤ 12) : Cf En 116 [.d (.int .u64 n)] [] (.d (.int .i64 (lenB n))) [] := by
  refine cf_intro mix (fn := Tryz.f116) (by kernel_rfl) rfl (by kernel_rfl) (by decide) (by simp) ?_
  simp
  (repeat' (first | contradiction | exact .of (by kernel_rfl) | refine And.intro ?_ ?_ | intro _ | (refine agrd_cases (fun h => ?_) (fun h => ?_) <;> (have h' := h; (try simp at h'); first | done | simp [h, h'] | simp))))
  refine acallT_plain (bits_len64 n h) (by simp) ?_
  simp
  (repeat' (first | contradiction | exact .of (by kernel_rfl) | refine And.intro ?_ ?_ | intro _ | (refine agrd_cases (fun h => ?_) (fun h => ?_) <;> (have h' := h; (try simp at h'); first | done | simp [h, h'] | simp))))
theorem pdq (l : List V) (hl : l.length ≤ 12) (lim : Int) : Cf En 115 [.ref 1000000 0 l.length 3, .d (.int .i64 0), .d (.int .i64 l.length), .d (.int .i64 lim), .clo 79 []] [.arr 54 3 (l.map V.c) false] (.tup []) [.arr 54 3 ((isort l).map V.c) false] := by
  refine cf_intro mix (fn := Tryz.f115) (by kernel_rfl) rfl (by kernel_rfl) (by decide) (by simp) ?_
  have hw := wrap_in (n := (l.length : Int)) (by omega) (by omega)
  have h12 : (l.length : Int) ≤ 12 := by omega
  simp
  (repeat' (first | contradiction | exact .of (by kernel_rfl) | refine And.intro ?_ ?_ | intro _ | (refine agrd_cases (fun h => ?_) (fun h => ?_) <;> (have h' := h; (try simp at h'); first | done | simp [h, h'] | simp))))
  refine aloopT mix (by decide) (fun _ : Unit => { s := mkS [(0, .ref 1000000 0 l.length 3), (1, .d (.int .i64 0)), (2, .d (.int .i64 l.length)), (4, .clo 79 [])], b := mkB [(1000000, 1000000, .arr 54 3 (l.map V.c) false)] }) (fun _ => True) (fun _ => 0) () trivial (sub_mk _ [(1000000, 1000000, _)] ⟨by simp, by simp, by simp [renOf, Blk.live], base1⟩ (by simp [renOf])) ?_
  intro _ _
  simp [hw, hl, h12]
  (repeat' (first | contradiction | exact .of (by kernel_rfl) | refine And.intro ?_ ?_ | intro _ | (refine agrd_cases (fun h => ?_) (fun h => ?_) <;> (have h' := h; (try simp at h'); first | done | simp [h, h'] | simp))))
  refine acallT_hand [1000000] (ins_sort l (by omega)) (by simp) (by simp) (by simp) (by simp) (by simp) ?_
  simp
  (repeat' (first | contradiction | exact .of (by kernel_rfl) | refine And.intro ?_ ?_ | intro _ | (refine agrd_cases (fun h => ?_) (fun h => ?_) <;> (have h' := h; (try simp at h'); first | done | simp [h, h'] | simp))))
theorem sort_func (l : List V) (hl : l.length ≤ 12) : Cf En 78 [.ref 1000000 0 l.length 3, .clo 79 []] [.arr 54 3 (l.map V.c) false] (.tup []) [.arr 54 3 ((isort l).map V.c) false] := by
  refine cf_intro mix (fn := Tryz.f78) (by kernel_rfl) rfl (by kernel_rfl) (by decide) (by simp) ?_
  have hw : IntKind.u64.wrap (l.length : Int) = l.length := by rw [IntKind.wrap_u64]; omega
  simp [hw]
  (repeat' (first | contradiction | exact .of (by kernel_rfl) | refine And.intro ?_ ?_ | intro _ | (refine agrd_cases (fun h => ?_) (fun h => ?_) <;> (have h' := h; (try simp at h'); first | done | simp [h, h'] | simp))))
  refine acallT_plain (bits_len l.length hl) (by simp) ?_
  simp
  refine acallT_hand [1000000] (pdq l hl (lenB l.length)) (by simp) (by simp) (by simp) (by simp) (by simp) ?_
  simp
  (repeat' (first | contradiction | exact .of (by kernel_rfl) | refine And.intro ?_ ?_ | intro _ | (refine agrd_cases (fun h => ?_) (fun h => ?_) <;> (have h' := h; (try simp at h'); first | done | simp [h, h'] | simp))))

/-! Compaction. -/
theorem compV_tail {l : List V} {i : Nat} (h : i + 1 < l.length) : (compV (l.drop i)).tail = if V.beq l[i] l[i + 1] = true then (compV (l.drop (i + 1))).tail else l[i + 1] :: (compV (l.drop (i + 1))).tail := by
  rw [List.drop_eq_getElem_cons (show i < l.length by omega), List.drop_eq_getElem_cons h]
  obtain ⟨m, hm⟩ := compV_head l[i + 1] (l.drop (i + 1 + 1))
  rw [compV, hm]
  split <;> simp
theorem compV_take {l : List V} {i : Nat} (h : i + 1 < l.length) (he : V.beq l[i] l[i + 1] = false) : compV (l.drop i) = l[i] :: compV (l.drop (i + 1)) := by
  rw [List.drop_eq_getElem_cons (show i < l.length by omega), List.drop_eq_getElem_cons h, compV, if_neg (by rw [he]; decide)]
theorem compV_len : ∀ l : List V, (compV l).length ≤ l.length
  | [] => by simp [compV]
  | [v] => by simp [compV]
  | v :: u :: l => by
    have := compV_len (u :: l)
    rw [compV]
    split <;> simp at * <;> omega
def cpF (n k0 : Nat) (x : Nat × Nat × List V) : St :=
  { s := mkS [(0, .ref 1000000 0 n 3), (3, .d (.int .i64 x.1)), (4, .ref 1000000 k0 (n - k0) 3), (5, .d (.int .i64 x.2.1))], b := mkB [(1000000, 1000000, .arr 54 3 (x.2.2.map V.c) false)] }
end Go.Proofs.Tryz
