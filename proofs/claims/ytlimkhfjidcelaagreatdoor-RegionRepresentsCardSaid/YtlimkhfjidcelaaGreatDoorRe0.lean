/- The reference's Eval. -/
import Derived.Test.YtlimkhfjidcelaaGreatDoorEva
set_option linter.all false
namespace Go.Proofs.Tryz
open Go.Ab
set_option maxRecDepth 100000
set_option maxHeartbeats 64000000

def kidsOk (op : Int) (n : Nat) : Bool :=
  if op ≤ 5 then n == 0 else if op = 11 ∨ op = 13 ∨ op = 21 ∨ op = 24 ∨ op = 25 then n == 1 else if op = 26 then n == 3 else if op = 28 then decide (2 ≤ n) else n == 2
theorem r_kids (op : Int) (n : Nat) : Cf En 45 [.d (.int .i64 op), .d (.int .i64 n)] [] (.d (.bool (kidsOk op n))) [] := by
  refine cf_intro mix (fn := Tryz.f45) (by kernel_rfl) rfl (by kernel_rfl) (by decide) (by simp) ?_
  unfold kidsOk
  by_cases h5 : op ≤ 5
  · simp [h5]
    (repeat' (first | contradiction | exact .of (by kernel_rfl) | refine And.intro ?_ ?_ | intro _ | (refine agrd_cases (fun h => ?_) (fun h => ?_) <;> (have h' := h; (try simp at h'); first | done | simp [h, h', h5] | simp [h5]))))
    all_goals try (rw [Bool.eq_iff_iff]; simp; done)
    all_goals try (rw [Bool.eq_iff_iff]; simp; omega)
    all_goals try omega
  by_cases h11 : op = 11
  · subst h11; simp
    (repeat' (first | contradiction | exact .of (by kernel_rfl) | refine And.intro ?_ ?_ | intro _ | (refine agrd_cases (fun h => ?_) (fun h => ?_) <;> (have h' := h; (try simp at h'); first | done | simp [h, h'] | simp))))
    all_goals try (rw [Bool.eq_iff_iff]; simp; done)
    all_goals try (rw [Bool.eq_iff_iff]; simp; omega)
    all_goals try omega
  by_cases h13 : op = 13
  · subst h13; simp
    (repeat' (first | contradiction | exact .of (by kernel_rfl) | refine And.intro ?_ ?_ | intro _ | (refine agrd_cases (fun h => ?_) (fun h => ?_) <;> (have h' := h; (try simp at h'); first | done | simp [h, h'] | simp))))
    all_goals try (rw [Bool.eq_iff_iff]; simp; done)
    all_goals try (rw [Bool.eq_iff_iff]; simp; omega)
    all_goals try omega
  by_cases h21 : op = 21
  · subst h21; simp
    (repeat' (first | contradiction | exact .of (by kernel_rfl) | refine And.intro ?_ ?_ | intro _ | (refine agrd_cases (fun h => ?_) (fun h => ?_) <;> (have h' := h; (try simp at h'); first | done | simp [h, h'] | simp))))
    all_goals try (rw [Bool.eq_iff_iff]; simp; done)
    all_goals try (rw [Bool.eq_iff_iff]; simp; omega)
    all_goals try omega
  by_cases h24 : op = 24
  · subst h24; simp
    (repeat' (first | contradiction | exact .of (by kernel_rfl) | refine And.intro ?_ ?_ | intro _ | (refine agrd_cases (fun h => ?_) (fun h => ?_) <;> (have h' := h; (try simp at h'); first | done | simp [h, h'] | simp))))
    all_goals try (rw [Bool.eq_iff_iff]; simp; done)
    all_goals try (rw [Bool.eq_iff_iff]; simp; omega)
    all_goals try omega
  by_cases h25 : op = 25
  · subst h25; simp
    (repeat' (first | contradiction | exact .of (by kernel_rfl) | refine And.intro ?_ ?_ | intro _ | (refine agrd_cases (fun h => ?_) (fun h => ?_) <;> (have h' := h; (try simp at h'); first | done | simp [h, h'] | simp))))
    all_goals try (rw [Bool.eq_iff_iff]; simp; done)
    all_goals try (rw [Bool.eq_iff_iff]; simp; omega)
    all_goals try omega
  by_cases h26 : op = 26
  · subst h26; simp
    (repeat' (first | contradiction | exact .of (by kernel_rfl) | refine And.intro ?_ ?_ | intro _ | (refine agrd_cases (fun h => ?_) (fun h => ?_) <;> (have h' := h; (try simp at h'); first | done | simp [h, h'] | simp))))
    all_goals try (rw [Bool.eq_iff_iff]; simp; done)
    all_goals try (rw [Bool.eq_iff_iff]; simp; omega)
    all_goals try omega
  by_cases h28 : op = 28
  · subst h28; simp
    (repeat' (first | contradiction | exact .of (by kernel_rfl) | refine And.intro ?_ ?_ | intro _ | (refine agrd_cases (fun h => ?_) (fun h => ?_) <;> (have h' := h; (try simp at h'); first | done | simp [h, h'] | simp))))
    all_goals try (rw [Bool.eq_iff_iff]; simp; done)
    all_goals try (rw [Bool.eq_iff_iff]; simp; omega)
    all_goals try omega
  simp [h5, h11, h13, h21, h24, h25, h26, h28]
  (repeat' (first | contradiction | exact .of (by kernel_rfl) | refine And.intro ?_ ?_ | intro _ | (refine agrd_cases (fun h => ?_) (fun h => ?_) <;> (have h' := h; (try simp at h'); first | done | simp [h, h', h5, h11, h13, h21, h24, h25, h26, h28] | simp [h5, h11, h13, h21, h24, h25, h26, h28]))))
  all_goals try (rw [Bool.eq_iff_iff]; simp; done)
  all_goals try (rw [Bool.eq_iff_iff]; simp; omega)
  all_goals try omega
theorem kids_cntd (op : Int) (n : Nat) (h : isOp op = true) : kidsOk op n = cntd op n := by
  have h2 : 1 ≤ op ∧ op ≤ 28 := by simpa [isOp] using h
  have h3 : op = 1 ∨ op = 2 ∨ op = 3 ∨ op = 4 ∨ op = 5 ∨ op = 6 ∨ op = 7 ∨ op = 8 ∨ op = 9 ∨ op = 10 ∨ op = 11 ∨ op = 12 ∨ op = 13 ∨ op = 14 ∨ op = 15 ∨ op = 16 ∨ op = 17 ∨ op = 18 ∨ op = 19 ∨ op = 20 ∨ op = 21 ∨ op = 22 ∨ op = 23 ∨ op = 24 ∨ op = 25 ∨ op = 26 ∨ op = 27 ∨ op = 28 := by omega
  clear h h2
  rcases h3 with rfl | rfl | rfl | rfl | rfl | rfl | rfl | rfl | rfl | rfl | rfl | rfl | rfl | rfl | rfl | rfl | rfl | rfl | rfl | rfl | rfl | rfl | rfl | rfl | rfl | rfl | rfl | rfl <;> (rw [Bool.eq_iff_iff]; simp [kidsOk, cntd, isOp, opOf, ops]; try omega)
theorem orF (x y : V) : orV ⟨2, 0, []⟩ (eqV x y) = eqV x y := by
  unfold eqV
  split
  · simp [orV, V.tr, nulV]
  · cases x.same y <;> simp [orV, V.tr, ofV]
def inF (o : V) (x : V) (ys : List V) : V := ys.foldl (fun o y => orV o (eqV x y)) o
theorem inV_cons (x y : V) (ys : List V) : inV x (y :: ys) = inF (eqV x y) x ys := by
  unfold inV inF
  rw [List.foldl_cons, orF]
theorem inF_take (o x : V) (ys : List V) (i : Nat) (y : V) (h : ys[i]? = some y) : inF o x (ys.take (i + 1)) = orV (inF o x (ys.take i)) (eqV x y) := by
  unfold inF
  rw [List.take_add_one, h]
  simp
def rvF (o c n g : Int) (t : List UInt8) (ks : List Ex) (row : List V) : Nat → St
  | 0 => { s := mkS [(1, .d (.sl (row.map V.c))), (2, .ptr 2 0 0), (4, .ptr 4 0 0), (5, .nils), (6, .d (.int .i64 0))], b := mkB [(2, 2, .var [.d (.int .i64 o), .d (.int .i64 c), .d (.int .i64 n), .d (.str t), .d (.int .i64 g), .d (.sl (ks.map Ex.c))]), (4, 4, .var [.d (.int .i64 0), .d (.int .i64 0), .d (.str [])])] }
  | i + 1 => { s := mkS [(1, .d (.sl (row.map V.c))), (2, .ptr 2 0 0), (4, .ptr 4 0 0), (5, .ref 900 0 (i + 1) 3), (6, .d (.int .i64 (i + 1 : Nat)))], b := mkB [(2, 2, .var [.d (.int .i64 o), .d (.int .i64 c), .d (.int .i64 n), .d (.str t), .d (.int .i64 g), .d (.sl (ks.map Ex.c))]), (4, 4, .var [.d (.int .i64 0), .d (.int .i64 0), .d (.str [])]), (900, 900, .arr 54 3 ((ks.take (i + 1)).map fun e => (evalV e row).c) false)] }


end Go.Proofs.Tryz
