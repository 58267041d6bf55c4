/- Types, rows and leaves that are made. -/
import Derived.Test.YtnbbnkmaoaogeaaDoorTap
import Derived.Test.YtnbbnkmaoaogeaaDoorCst
set_option linter.all false
namespace Go.Proofs.Tryd
open Go.Ab

def typesG (L : List Int) (i : Nat) : Nat → List Int
  | 0 => []
  | n + 1 => typesG L i n ++ [1 + nextV L (i + n) 3]
theorem typesG_len (L : List Int) (i : Nat) : ∀ n, (typesG L i n).length = n
  | 0 => rfl
  | n + 1 => by simp [typesG, typesG_len L i n]
def ints (l : List Int) : List (List D) := l.map fun n => [.int .i64 n]
def tyF (L : List Int) (i m : Nat) : Nat → St
  | 0 => { s := mkS [(0, .ptr 1000000 0 0), (5, .d (.int .i64 m)), (6, .nils), (7, .d (.int .i64 0))], b := mkB [(1000000, 1000000, tapB L i)] }
  | j + 1 => { s := mkS [(0, .ptr 1000000 0 0), (5, .d (.int .i64 m)), (6, .ref 900 0 (j + 1) 1), (7, .d (.int .i64 (j + 1 : Nat)))], b := mkB [(1000000, 1000000, tapB L (i + (j + 1))), (900, 900, .arr 3 1 (ints (typesG L i (j + 1))) false)] }

theorem t_types (L : List Int) (i : Nat) (hi : i ≤ 1000000) (most : Int) (hm : 1 ≤ most ∧ most ≤ 100) :
    Cf En 30 [.ptr 1000000 0 0, .d (.int .i64 most)] [tapB L i] (.d (.sl (ints (typesG L (i + 1) (1 + nextV L i most).toNat)))) [tapB L (i + 1 + (1 + nextV L i most).toNat : Nat)] := by
  refine cf_intro mix (fn := Tryd.f30) (by kernel_rfl) rfl (by kernel_rfl) (by decide) (by simp) ?_
  have hn := nextV_in L i (n := most) (by omega)
  have ht := t_next L i (by omega) most (by omega)
  rw [show nextI i most = i + 1 from by simp [nextI]; omega] at ht
  simp [tapB]
  (repeat' (first | contradiction | exact .of (by kernel_rfl) | refine And.intro ?_ ?_ | intro _ | (refine agrd_cases (fun h => ?_) (fun h => ?_) <;> (have h' := h; (try simp at h'); simp [h, h']))))
  refine acallT_hand [1000000] ht (by simp) (by simp) (by simp) (by simp [tapB]) (by simp) ?_
  obtain ⟨m, hmm⟩ : ∃ m : Nat, (m : Int) = 1 + nextV L i most := ⟨(1 + nextV L i most).toNat, by omega⟩
  have hw := wrap_in (n := 1 + nextV L i most) (by omega) (by omega)
  rw [← hmm] at hw
  simp [tapB, ← hmm, hw]
  (repeat' (first | contradiction | exact .of (by kernel_rfl) | refine And.intro ?_ ?_ | intro _ | (refine agrd_cases (fun h => ?_) (fun h => ?_) <;> (have h' := h; (try simp at h'); simp [h, h']))))
  refine aloopT mix (by decide) (tyF L (i + 1) m) (fun j => j ≤ m) (fun j => m - j) 0 (by simp) (sub_mk [(0, _), (5, _), (6, _), (7, _)] [(1000000, 1000000, _)] ⟨by simp, by simp, by simp [renOf, Blk.live, tapB], base1⟩ (by simp [renOf])) ?_
  intro j hj
  by_cases hlt : j < m
  · have hx := nextV_in L (i + 1 + j) (n := 3) (by omega)
    have hw1 := wrap_in (n := 1 + nextV L (i + 1 + j) 3) (by omega) (by omega)
    have hx2 := t_next L (i + 1 + j) (by omega) 3 (by omega)
    rw [show nextI (i + 1 + j) 3 = i + 1 + j + 1 from rfl] at hx2
    cases j with
    | zero =>
      have hlt' : (0 : Int) < m := by omega
      simp [tyF, tapB, hlt', hlt]
      (repeat' (first | contradiction | exact .of (by kernel_rfl) | refine And.intro ?_ ?_ | intro _ | (refine agrd_cases (fun h => ?_) (fun h => ?_) <;> (have h' := h; (try simp at h'); simp [h, h']))))
      refine acallT_hand [1000000] hx2 (by simp) (by simp) (by simp) (by simp [tapB]) (by simp) ?_
      simp [tapB, hw1]
      (repeat' (first | contradiction | exact .of (by kernel_rfl) | refine And.intro ?_ ?_ | intro _ | (refine agrd_cases (fun h => ?_) (fun h => ?_) <;> (have h' := h; (try simp at h'); simp [h, h']))))
      refine ⟨1, by omega, ?_, ?_⟩
      · refine sub_mk [(0, _), (5, _), (6, _), (7, _)] [(1000000, 1000000, _), (900, 22, _)] ⟨by simp, by simp, ?_, base1⟩ ?_
        · simp [renOf, Blk.live, tapB, typesG, ints]
        · simp [renOf]
          exact wrap_in (by omega) (by omega)
      · simp; omega
    | succ j =>
      have hlt' : (j : Int) + 1 < m := by omega
      have hlen := typesG_len L (i + 1) (j + 1)
      have s1 : (j + 1 + 1) * 8 ≤ 140737488355328 := by omega
      have s2 : j ≤ 9223372036854775805 := by omega
      simp [tyF, tapB, hlt', ints, hlen, s1, s2]
      (repeat' (first | contradiction | exact .of (by kernel_rfl) | refine And.intro ?_ ?_ | intro _ | (refine agrd_cases (fun h => ?_) (fun h => ?_) <;> (have h' := h; (try simp at h'); simp [h, h']))))
      refine acallT_hand [1000000] hx2 (by simp) (by simp) (by simp) (by simp [tapB]) (by simp) ?_
      simp [tapB, hw1, hlen, s1, s2]
      (repeat' (first | contradiction | exact .of (by kernel_rfl) | refine And.intro ?_ ?_ | intro _ | (refine agrd_cases (fun h => ?_) (fun h => ?_) <;> (have h' := h; (try simp at h'); simp [h, h']))))
      refine ⟨j + 2, by omega, ?_, ?_⟩
      · refine sub_mk [(0, _), (5, _), (6, _), (7, _)] [(1000000, 1000000, _), (900, 22, _)] ⟨by simp, by simp, ?_, base1⟩ ?_
        · simp [renOf, Blk.live, tapB, typesG, ints, hlen]
          omega
        · simp [renOf]
          rw [wrap_in (by omega) (by omega)]
      · simp; omega
  · have hjm : j = m := by omega
    subst hjm
    have e1 : (1 + nextV L i most).toNat = j := by omega
    rw [e1]
    cases j with
    | zero => omega
    | succ j =>
      have hlen := typesG_len L (i + 1) (j + 1)
      simp [tyF, tapB, ints, hlen]
      (repeat' (first | contradiction | exact .of (by kernel_rfl) | refine And.intro ?_ ?_ | intro _ | (refine agrd_cases (fun h => ?_) (fun h => ?_) <;> (have h' := h; (try simp at h'); simp [h, h']))))
      all_goals exact List.take_of_length_le (by simp [hlen])

def rowG (L : List Int) : Nat → List Int → List V
  | _, [] => []
  | i, t :: ts => valV L i t :: rowG L (i + 1) ts
theorem rowG_len (L : List Int) : ∀ (i : Nat) (ts : List Int), (rowG L i ts).length = ts.length
  | _, [] => rfl
  | i, t :: ts => by simp [rowG, rowG_len L (i + 1) ts]
theorem rowG_app (L : List Int) : ∀ (i : Nat) (a b : List Int), rowG L i (a ++ b) = rowG L i a ++ rowG L (i + a.length) b
  | i, [], b => by simp [rowG]
  | i, t :: a, b => by simp only [List.cons_append, rowG, rowG_app L (i + 1) a b, List.length_cons]; rw [show i + 1 + a.length = i + (a.length + 1) from by omega]
def rwF (L : List Int) (i : Nat) (ts : List Int) : Nat → St
  | 0 => { s := mkS [(0, .ptr 1000000 0 0), (1, .d (.sl (ints ts))), (5, .nils), (6, .d (.int .i64 0))], b := mkB [(1000000, 1000000, tapB L i)] }
  | j + 1 => { s := mkS [(0, .ptr 1000000 0 0), (1, .d (.sl (ints ts))), (5, .ref 900 0 (j + 1) 3), (6, .d (.int .i64 (j + 1 : Nat)))], b := mkB [(1000000, 1000000, tapB L (i + (j + 1))), (900, 900, .arr 23 3 ((rowG L i (ts.take (j + 1))).map V.c) false)] }

theorem t_row (L : List Int) (i : Nat) (hi : i ≤ 1000000) (ts : List Int) (hts : ts.length ≤ 1000) :
    Cf En 32 [.ptr 1000000 0 0, .d (.sl (ints ts))] [tapB L i] (.d (.sl ((rowG L i ts).map V.c))) [tapB L (i + ts.length : Nat)] := by
  refine cf_intro mix (fn := Tryd.f32) (by kernel_rfl) rfl (by kernel_rfl) (by decide) (by simp) ?_
  simp [tapB, ints]
  (repeat' (first | contradiction | exact .of (by kernel_rfl) | refine And.intro ?_ ?_ | intro _ | (refine agrd_cases (fun h => ?_) (fun h => ?_) <;> (have h' := h; (try simp at h'); simp [h, h']))))
  refine aloopT mix (by decide) (rwF L i ts) (fun j => j ≤ ts.length) (fun j => ts.length - j) 0 (by simp) (sub_mk [(0, _), (1, _), (5, _), (6, _)] [(1000000, 1000000, _)] ⟨by simp, by simp, by simp [renOf, Blk.live, tapB], base1⟩ (by simp [renOf, ints])) ?_
  intro j hj
  by_cases hlt : j < ts.length
  · have hg : ts[j]? = some ts[j] := List.getElem?_eq_getElem hlt
    have hx2 := t_value L (i + j) (by omega) ts[j]
    have htk : ts.take (j + 1) = ts.take j ++ [ts[j]] := by rw [List.take_add_one, hg]; rfl
    have hr : rowG L i (ts.take (j + 1)) = rowG L i (ts.take j) ++ [valV L (i + j) ts[j]] := by
      rw [htk, rowG_app]
      simp [rowG, show min j ts.length = j from by omega]
    cases j with
    | zero =>
      have hlt' : (0 : Int) < ts.length := by omega
      simp [rwF, tapB, hlt', hlt, ints, hg]
      (repeat' (first | contradiction | exact .of (by kernel_rfl) | refine And.intro ?_ ?_ | intro _ | (refine agrd_cases (fun h => ?_) (fun h => ?_) <;> (have h' := h; (try simp at h'); simp [h, h']))))
      refine acallT_hand [1000000] hx2 (by simp) (by simp) (by simp) (by simp [tapB]) (by simp) ?_
      simp [tapB, V.a]
      (repeat' (first | contradiction | exact .of (by kernel_rfl) | refine And.intro ?_ ?_ | intro _ | (refine agrd_cases (fun h => ?_) (fun h => ?_) <;> (have h' := h; (try simp at h'); simp [h, h']))))
      refine ⟨1, by omega, ?_, ?_⟩
      · refine sub_mk [(0, _), (1, _), (5, _), (6, _)] [(1000000, 1000000, _), (900, 21, _)] ⟨by simp, by simp, ?_, base1⟩ ?_
        · simp [renOf, Blk.live, tapB, hr, V.c]
          simp [rowG]
        · simp [renOf, ints]
          exact wrap_in (by omega) (by omega)
      · simp; omega
    | succ j =>
      have hlt' : (j : Int) + 1 < ts.length := by omega
      have hp : (0 : Int) ≤ (j : Int) + 1 := by omega
      have hlen : (rowG L i (ts.take (j + 1))).length = j + 1 := by rw [rowG_len, List.length_take]; omega
      have s1 : (j + 1 + 1) * 32 ≤ 140737488355328 := by omega
      have s2 : j ≤ 9223372036854775805 := by omega
      simp [rwF, tapB, hlt', hlt, hp, ints, hg]
      (repeat' (first | contradiction | exact .of (by kernel_rfl) | refine And.intro ?_ ?_ | intro _ | (refine agrd_cases (fun h => ?_) (fun h => ?_) <;> (have h' := h; (try simp at h'); simp [h, h']))))
      refine acallT_hand [1000000] hx2 (by simp) (by simp) (by simp) (by simp [tapB]) (by simp) ?_
      simp [tapB, V.a, hlen, s1, s2]
      (repeat' (first | contradiction | exact .of (by kernel_rfl) | refine And.intro ?_ ?_ | intro _ | (refine agrd_cases (fun h => ?_) (fun h => ?_) <;> (have h' := h; (try simp at h'); simp [h, h']))))
      refine ⟨j + 2, by omega, ?_, ?_⟩
      · refine sub_mk [(0, _), (1, _), (5, _), (6, _)] [(1000000, 1000000, _), (900, 21, _)] ⟨by simp, by simp, ?_, base1⟩ ?_
        · simp [renOf, Blk.live, tapB, hr, V.c, hlen]
          omega
        · simp [renOf, ints]
          rw [wrap_in (by omega) (by omega)]
      · simp; omega
  · have hjm : j = ts.length := by omega
    subst hjm
    cases hk : ts.length with
    | zero =>
      have : ts = [] := List.eq_nil_of_length_eq_zero hk
      subst this
      simp [rwF, tapB, ints]
      (repeat' (first | contradiction | exact .of (by kernel_rfl) | refine And.intro ?_ ?_ | intro _ | (refine agrd_cases (fun h => ?_) (fun h => ?_) <;> (have h' := h; (try simp at h'); simp [h, h']))))
      all_goals simp [rowG]
    | succ j =>
      have hfull : ts.take (j + 1) = ts := List.take_of_length_le (by omega)
      have hlen := rowG_len L i ts
      have hge : ¬ (j : Int) + 1 < ts.length := by omega
      simp [rwF, tapB, ints, hlen, hk, hfull]
      (repeat' (first | contradiction | exact .of (by kernel_rfl) | refine And.intro ?_ ?_ | intro _ | (refine agrd_cases (fun h => ?_) (fun h => ?_) <;> (have h' := h; (try simp at h'); simp [h, h']))))
      all_goals first | omega | exact List.take_of_length_le (by simp [hlen, hk])

def idxG (k : Int) : Nat → List Int → List Int
  | _, [] => []
  | i, t :: ts => if t = k then (i : Int) :: idxG k (i + 1) ts else idxG k (i + 1) ts
theorem idxG_app (k : Int) : ∀ (i : Nat) (a b : List Int), idxG k i (a ++ b) = idxG k i a ++ idxG k (i + a.length) b
  | i, [], b => by simp [idxG]
  | i, t :: a, b => by
    simp only [List.cons_append, idxG, idxG_app k (i + 1) a b, List.length_cons]
    rw [show i + 1 + a.length = i + (a.length + 1) from by omega]
    split <;> rfl
theorem idxG_len (k : Int) : ∀ (i : Nat) (ts : List Int), (idxG k i ts).length ≤ ts.length
  | _, [] => Nat.le_refl _
  | i, t :: ts => by
    have := idxG_len k (i + 1) ts
    simp only [idxG]
    split <;> simp <;> omega
def pkF (L : List Int) (i : Nat) (k : Int) (ts : List Int) : Nat × List Int → St
  | (j, []) => { s := mkS [(0, .ptr 1000000 0 0), (1, .d (.sl (ints ts))), (2, .d (.int .i64 k)), (6, .ptr 6 0 0), (7, .nils), (8, .d (.int .i64 j))], b := mkB [(1000000, 1000000, tapB L i), (6, 6, .var [.d (.int .i64 0), .d (.int .i64 0), .d (.int .i64 0), .d (.str []), .d (.int .i64 0), .nils])] }
  | (j, x :: xs) => { s := mkS [(0, .ptr 1000000 0 0), (1, .d (.sl (ints ts))), (2, .d (.int .i64 k)), (6, .ptr 6 0 0), (7, .ref 900 0 (xs.length + 1) 1), (8, .d (.int .i64 j))], b := mkB [(1000000, 1000000, tapB L i), (6, 6, .var [.d (.int .i64 0), .d (.int .i64 0), .d (.int .i64 0), .d (.str []), .d (.int .i64 0), .nils]), (900, 900, .arr 3 1 (ints (x :: xs)) false)] }
def pickG (L : List Int) (ts : List Int) (k : Int) (i : Nat) : Ex × Nat :=
  let l := idxG k 0 ts
  let n := nextV L i (l.length + 2)
  if n < l.length then (.mk 5 0 0 [] ((l[n.toNat]?).getD 0) [], i + 1) else (constOf (valV L (i + 1) k) k, i + 2)
theorem t_pick (L : List Int) (i : Nat) (hi : i ≤ 1000000) (ts : List Int) (hts : ts.length ≤ 1000) (k : Int) :
    Cf En 59 [.ptr 1000000 0 0, .d (.sl (ints ts)), .d (.int .i64 k)] [tapB L i] (pickG L ts k i).1.a [tapB L (pickG L ts k i).2] := by
  refine cf_intro mix (fn := Tryd.f59) (by kernel_rfl) rfl (by kernel_rfl) (by decide) (by simp) ?_
  simp [tapB, ints]
  (repeat' (first | contradiction | exact .of (by kernel_rfl) | refine And.intro ?_ ?_ | intro _ | (refine agrd_cases (fun h => ?_) (fun h => ?_) <;> (have h' := h; (try simp at h'); simp [h, h']))))
  refine aloopT mix (by decide) (pkF L i k ts) (fun p => p.1 ≤ ts.length ∧ p.2 = idxG k 0 (ts.take p.1)) (fun p => ts.length - p.1) (0, []) (by simp [idxG]) (sub_mk [(0, _), (1, _), (2, _), (6, _), (7, _), (8, _)] [(1000000, 1000000, _), (6, 6, _)] ⟨by simp, by simp, by simp [renOf, Blk.live, tapB], base1⟩ (by simp [renOf, ints])) ?_
  rintro ⟨j, acc⟩ ⟨hj, hacc⟩
  simp only at hj hacc
  by_cases hlt : j < ts.length
  · have hg : ts[j]? = some ts[j] := List.getElem?_eq_getElem hlt
    have htk : ts.take (j + 1) = ts.take j ++ [ts[j]] := by rw [List.take_add_one, hg]; rfl
    have hr : idxG k 0 (ts.take (j + 1)) = acc ++ if ts[j] = k then [(j : Int)] else [] := by
      rw [htk, idxG_app, ← hacc]
      simp only [idxG, List.length_take, Nat.zero_add, show min j ts.length = j from by omega]
    have hlen : acc.length ≤ 1000 := by
      rw [hacc]
      have := idxG_len k 0 (ts.take j)
      have := List.length_take (i := j) (l := ts)
      omega
    have hlt' : (j : Int) < ts.length := by omega
    cases acc with
    | nil =>
      by_cases hk : ts[j] = k
      · simp [pkF, tapB, hlt', hlt, ints, hg, hk]
        (repeat' (first | contradiction | exact .of (by kernel_rfl) | refine And.intro ?_ ?_ | intro _ | (refine agrd_cases (fun h => ?_) (fun h => ?_) <;> (have h' := h; (try simp at h'); simp [h, h']))))
        refine ⟨(j + 1, [(j : Int)]), ⟨by simp; omega, by simp [hr, hk]⟩, ?_, ?_⟩
        · refine sub_mk [(0, _), (1, _), (2, _), (6, _), (7, _), (8, _)] [(1000000, 1000000, _), (6, 6, _), (900, 25, _)] ⟨by simp, by simp, ?_, base1⟩ ?_
          · simp [renOf, Blk.live, tapB, ints]
          · simp [renOf, ints]
            exact wrap_in (by omega) (by omega)
        · simp; omega
      · simp [pkF, tapB, hlt', hlt, ints, hg, hk]
        (repeat' (first | contradiction | exact .of (by kernel_rfl) | refine And.intro ?_ ?_ | intro _ | (refine agrd_cases (fun h => ?_) (fun h => ?_) <;> (have h' := h; (try simp at h'); simp [h, h']))))
        refine ⟨(j + 1, []), ⟨by simp; omega, by simp [hr, hk]⟩, ?_, ?_⟩
        · refine sub_mk [(0, _), (1, _), (2, _), (6, _), (7, _), (8, _)] [(1000000, 1000000, _), (6, 6, _)] ⟨by simp, by simp, ?_, base1⟩ ?_
          · simp [renOf, Blk.live, tapB, ints]
          · simp [renOf, ints]
            exact wrap_in (by omega) (by omega)
        · simp; omega
    | cons x xs =>
      have hl2 : xs.length ≤ 1000 := by simp at hlen; omega
      have s1 : (xs.length + 1 + 1) * 8 ≤ 140737488355328 := by omega
      have s2 : xs.length ≤ 9223372036854775805 := by omega
      by_cases hk : ts[j] = k
      · simp [pkF, tapB, hlt', hlt, ints, hg, hk, s1, s2]
        (repeat' (first | contradiction | exact .of (by kernel_rfl) | refine And.intro ?_ ?_ | intro _ | (refine agrd_cases (fun h => ?_) (fun h => ?_) <;> (have h' := h; (try simp at h'); simp [h, h']))))
        refine ⟨(j + 1, x :: xs ++ [(j : Int)]), ⟨by simp; omega, by simp [hr, hk]⟩, ?_, ?_⟩
        · refine sub_mk [(0, _), (1, _), (2, _), (6, _), (7, _), (8, _)] [(1000000, 1000000, _), (6, 6, _), (900, 25, _)] ⟨by simp, by simp, ?_, base1⟩ ?_
          · simp [renOf, Blk.live, tapB, ints]
          · simp [renOf, ints]
            exact wrap_in (by omega) (by omega)
        · simp; omega
      · simp [pkF, tapB, hlt', hlt, ints, hg, hk]
        (repeat' (first | contradiction | exact .of (by kernel_rfl) | refine And.intro ?_ ?_ | intro _ | (refine agrd_cases (fun h => ?_) (fun h => ?_) <;> (have h' := h; (try simp at h'); simp [h, h']))))
        refine ⟨(j + 1, x :: xs), ⟨by simp; omega, by simp [hr, hk]⟩, ?_, ?_⟩
        · refine sub_mk [(0, _), (1, _), (2, _), (6, _), (7, _), (8, _)] [(1000000, 1000000, _), (6, 6, _), (900, 900, _)] ⟨by simp, by simp, ?_, base1⟩ ?_
          · simp [renOf, Blk.live, tapB, ints]
          · simp [renOf, ints]
            exact wrap_in (by omega) (by omega)
        · simp; omega
  · have hjm : j = ts.length := by omega
    subst hjm
    rw [List.take_length] at hacc
    have hge : ¬ (ts.length : Int) < ts.length := by omega
    have hal := idxG_len k 0 ts
    rw [← hacc] at hal
    have hpk : pickG L ts k i = if nextV L i (acc.length + 2) < acc.length then (.mk 5 0 0 [] ((acc[(nextV L i (acc.length + 2)).toNat]?).getD 0) [], i + 1) else (constOf (valV L (i + 1) k) k, i + 2) := by unfold pickG; rw [← hacc]
    have hn := nextV_in L i (n := acc.length + 2) (by omega)
    have ht := t_next L i (by omega) (acc.length + 2) (by omega)
    rw [show nextI i (acc.length + 2) = i + 1 from by simp [nextI]; omega] at ht
    have hv := t_value L (i + 1) (by omega) k
    have hw := wrap_in (n := (acc.length : Int) + 2) (by omega) (by omega)
    rw [hpk]
    generalize hnn : nextV L i (acc.length + 2) = n at *
    cases acc with
    | nil =>
      simp at ht hw
      have h0 : ¬ n < 0 := by omega
      rw [if_neg (by simpa using h0)]
      simp [pkF, tapB, ints, hw]
      (repeat' (first | contradiction | exact .of (by kernel_rfl) | refine And.intro ?_ ?_ | intro _ | (refine agrd_cases (fun h => ?_) (fun h => ?_) <;> (have h' := h; (try simp at h'); simp [h, h']))))
      refine acallT_hand [1000000] ht (by simp) (by simp) (by simp) (by simp [tapB]) (by simp) ?_
      simp [tapB, h0]
      (repeat' (first | contradiction | exact .of (by kernel_rfl) | refine And.intro ?_ ?_ | intro _ | (refine agrd_cases (fun h => ?_) (fun h => ?_) <;> (have h' := h; (try simp at h'); simp [h, h']))))
      refine acallT_hand [1000000] hv (by simp) (by simp) (by simp) (by simp [tapB]) (by simp) ?_
      simp [tapB, V.a]
      refine acallT_plain (r_const (valV L (i + 1) k) k) (by simp [V.a]) ?_
      simp [Ex.a, Ex.ctake, Ex.clen]
      (repeat' (first | contradiction | exact .of (by kernel_rfl) | refine And.intro ?_ ?_ | intro _ | (refine agrd_cases (fun h => ?_) (fun h => ?_) <;> (have h' := h; (try simp at h'); simp [h, h']))))
      all_goals omega
    | cons x xs =>
      simp at ht hw
      by_cases hc : n < (xs.length : Int) + 1
      · have hgn : (x :: xs)[n.toNat]? = some ((x :: xs)[n.toNat]'(by simp only [List.length_cons]; omega)) := List.getElem?_eq_getElem _
        have h0 : 0 ≤ n := by omega
        have h1 : n.toNat < xs.length + 1 := by omega
        rw [if_pos (by simpa using hc)]
        simp [pkF, tapB, ints, hw]
        (repeat' (first | contradiction | exact .of (by kernel_rfl) | refine And.intro ?_ ?_ | intro _ | (refine agrd_cases (fun h => ?_) (fun h => ?_) <;> (have h' := h; (try simp at h'); simp [h, h']))))
        refine acallT_hand [1000000] ht (by simp) (by simp) (by simp) (by simp [tapB]) (by simp) ?_
        simp [tapB, h0, hc]
        (repeat' (first | contradiction | exact .of (by kernel_rfl) | refine And.intro ?_ ?_ | intro _ | (refine agrd_cases (fun h => ?_) (fun h => ?_) <;> (have h' := h; (try simp at h'); simp [h, h']))))
        have hgm : ([D.int .i64 x] :: List.map (fun n => [D.int .i64 n]) xs)[n.toNat]'(by simp; omega) = [D.int .i64 (((x :: xs)[n.toNat]?).getD 0)] := by
          have := List.getElem_map (f := fun n => [D.int .i64 n]) (l := x :: xs) (i := n.toNat) (h := by simp; omega)
          rw [hgn, Option.getD_some]
          exact this
        simp [hgm]
        (repeat' (first | contradiction | exact .of (by kernel_rfl) | refine And.intro ?_ ?_ | intro _ | (refine agrd_cases (fun h => ?_) (fun h => ?_) <;> (have h' := h; (try simp at h'); simp [h, h']))))
        all_goals rfl
      · rw [if_neg (by simpa using hc)]
        simp [pkF, tapB, ints, hw]
        (repeat' (first | contradiction | exact .of (by kernel_rfl) | refine And.intro ?_ ?_ | intro _ | (refine agrd_cases (fun h => ?_) (fun h => ?_) <;> (have h' := h; (try simp at h'); simp [h, h']))))
        refine acallT_hand [1000000] ht (by simp) (by simp) (by simp) (by simp [tapB]) (by simp) ?_
        simp [tapB, hc]
        (repeat' (first | contradiction | exact .of (by kernel_rfl) | refine And.intro ?_ ?_ | intro _ | (refine agrd_cases (fun h => ?_) (fun h => ?_) <;> (have h' := h; (try simp at h'); simp [h, h']))))
        refine acallT_hand [1000000] hv (by simp) (by simp) (by simp) (by simp [tapB]) (by simp) ?_
        simp [tapB, V.a]
        refine acallT_plain (r_const (valV L (i + 1) k) k) (by simp [V.a]) ?_
        simp [Ex.a, Ex.ctake, Ex.clen]
        (repeat' (first | contradiction | exact .of (by kernel_rfl) | refine And.intro ?_ ?_ | intro _ | (refine agrd_cases (fun h => ?_) (fun h => ?_) <;> (have h' := h; (try simp at h'); simp [h, h']))))
        all_goals omega
end Go.Proofs.Tryd
