/- Schemas that are made. Printed by gensch.py. -/
import Derived.Test.YtlimkhfjidcelaaDoorKE7
set_option linter.all false
namespace Go.Proofs.Tryd
open Go.Ab
set_option maxRecDepth 100000
set_option maxHeartbeats 1000000

theorem t_next1 (L : List Int) (i : Nat) (hi : i ≤ 1000000000) (n : Int) (h1 : 1 ≤ n) (hn : n ≤ 1000000) :
    Cf En 22 [.ptr 1000000 0 0, .d (.int .i64 n)] [tapB L i] (.d (.int .i64 (nextV L i n))) [tapB L (i + 1)] := by
  have h := t_next L i hi n hn
  rwa [show nextI i n = i + 1 from by simp [nextI]; omega] at h
theorem szOk (x c : Nat) (h : x ≤ 1000) (hc : c ≤ 1000) : x * c ≤ 140737488355328 := Nat.le_trans (Nat.mul_le_mul h hc) (by decide)
theorem leBig (x : Nat) (h : x ≤ 1000) : x ≤ 9223372036854775800 := Nat.le_trans h (by decide)
theorem leBig5 (x : Nat) (h : x ≤ 1000) : x ≤ 9223372036854775805 := Nat.le_trans h (by decide)
theorem leBig4 (x : Nat) (h : x ≤ 1000) : x ≤ 9223372036854775804 := Nat.le_trans h (by decide)
def nmG (c : UInt8) (k : Nat) : List UInt8 := [c] ++ [UInt8.ofNat (48 + k)]
theorem t_nm (c : UInt8) (k : Nat) (z : Int) (hz : z = k) (hk : k < 10) : Cf En 52 [.d (.str [c]), .d (.int .i64 z)] [] (.d (.str (nmG c k))) [] := by
  subst hz
  exact t_name [c] k hk (by simp)
def upL {α : Type} (f : Nat → α) : Nat → List α
  | 0 => []
  | k + 1 => upL f k ++ [f k]
theorem upL_len {α : Type} (f : Nat → α) : ∀ k, (upL f k).length = k
  | 0 => rfl
  | k + 1 => by rw [upL, List.length_append, upL_len f k]; rfl
def idC : Col := ⟨[105, 100], 1, false⟩
def colG (L : List Int) (a k : Nat) : Col := ⟨nmG 99 k, 1 + nextV L (a + 2 * k) 3, nextV L (a + 2 * k + 1) 2 == 0⟩
def colsG (L : List Int) (a m : Nat) : List Col := idC :: upL (colG L a) m
theorem colsG_len (L : List Int) (a m : Nat) : (colsG L a m).length = m + 1 := by simp [colsG, upL_len]
theorem colsG_succ (L : List Int) (a m : Nat) : colsG L a (m + 1) = colsG L a m ++ [colG L a m] := rfl
def fcolG (L : List Int) (b k : Nat) : Col := ⟨nmG 102 k, 1, nextV L (b + 3 * k + 1) 4 == 0⟩
def fkG (L : List Int) (b j n k : Nat) : List D := [.sl [[.int .i64 (n + k : Nat)]], .str (nmG 116 (nextV L (b + 3 * k + 2) j).toNat)]
def colsF (L : List Int) (a m b k : Nat) : List Col := colsG L a m ++ upL (fcolG L b) k
def fksF (L : List Int) (b j n k : Nat) : List (List D) := upL (fkG L b j n) k
theorem colsF_len (L : List Int) (a m b k : Nat) : (colsF L a m b k).length = m + 1 + k := by simp [colsF, colsG_len, upL_len]
theorem colsF_succ (L : List Int) (a m b k : Nat) : colsF L a m b (k + 1) = colsF L a m b k ++ [fcolG L b k] := by simp [colsF, upL]
theorem colsF_zero (L : List Int) (a m b : Nat) : colsF L a m b 0 = colsG L a m := by simp [colsF, upL]
theorem fksF_len (L : List Int) (b j n k : Nat) : (fksF L b j n k).length = k := upL_len _ k
theorem fksF_succ (L : List Int) (b j n k : Nat) : fksF L b j n (k + 1) = fksF L b j n k ++ [fkG L b j n k] := rfl
def fkN (L : List Int) (b j : Nat) : Nat := if j = 0 then 0 else if nextV L b 3 = 0 then 0 else if nextV L (b + 3) 3 = 0 then 1 else 2
def fkE (L : List Int) (b j : Nat) : Nat := if j = 0 then b else if nextV L b 3 = 0 then b + 1 else if nextV L (b + 3) 3 = 0 then b + 4 else b + 6
def endG (L : List Int) (nm : List UInt8) (cols : List Col) (fks : List (List D)) (m a : Nat) : Tb × Nat :=
  if nextV L a 4 = 0 then
    if nextV L (a + 2) 4 = 0 then (⟨nm, cols, [[.sl [[.int .i64 (1 + nextV L (a + 1) m)]]]], fks, [(exprG L (cols.map Col.t) 3 2 (a + 3)).1]⟩, (exprG L (cols.map Col.t) 3 2 (a + 3)).2)
    else (⟨nm, cols, [[.sl [[.int .i64 (1 + nextV L (a + 1) m)]]]], fks, []⟩, a + 3)
  else
    if nextV L (a + 1) 4 = 0 then (⟨nm, cols, [], fks, [(exprG L (cols.map Col.t) 3 2 (a + 2)).1]⟩, (exprG L (cols.map Col.t) 3 2 (a + 2)).2)
    else (⟨nm, cols, [], fks, []⟩, a + 2)
def freeG (L : List Int) (a : Nat) : Nat := (1 + nextV L a 3).toNat
def tabG (L : List Int) (j a : Nat) : Tb × Nat :=
  endG L (nmG 116 j) (colsF L (a + 1) (freeG L a) (a + 1 + 2 * freeG L a) (fkN L (a + 1 + 2 * freeG L a) j)) (fksF L (a + 1 + 2 * freeG L a) j (freeG L a + 1) (fkN L (a + 1 + 2 * freeG L a) j)) (freeG L a) (fkE L (a + 1 + 2 * freeG L a) j)
def tabsG (L : List Int) (a : Nat) : Nat → List Tb × Nat
  | 0 => ([], a)
  | n + 1 => ((tabsG L a n).1 ++ [(tabG L n (tabsG L a n).2).1], (tabG L n (tabsG L a n).2).2)
theorem tabsG_len (L : List Int) (a : Nat) : ∀ n, (tabsG L a n).1.length = n
  | 0 => rfl
  | n + 1 => by simp [tabsG, tabsG_len L a n]
theorem free_in (L : List Int) (a : Nat) : 1 ≤ freeG L a ∧ freeG L a ≤ 3 := by
  have := nextV_in L a (n := 3) (by omega)
  unfold freeG; omega
theorem fkN_le (L : List Int) (b j : Nat) : fkN L b j ≤ 2 := by
  unfold fkN
  repeat' split
  all_goals omega
theorem fkE_le (L : List Int) (b j : Nat) : fkE L b j ≤ b + 6 := by
  unfold fkE
  repeat' split
  all_goals omega
theorem end_le (L : List Int) (nm : List UInt8) (cols : List Col) (fks : List (List D)) (m a : Nat) (hc : cols.length ≤ 1000) (ha : a + 600 ≤ 1000000) : (endG L nm cols fks m a).2 ≤ a + 570 := by
  have h := t_expr L (cols.map Col.t) (by simpa using hc) 3 (by omega)
  have h1 := (h 2 (a + 3) (by simp [gb]; omega)).1
  have h2 := (h 2 (a + 2) (by simp [gb]; omega)).1
  simp [gb] at h1 h2
  unfold endG
  repeat' split
  all_goals simp
  all_goals omega
theorem tab_le (L : List Int) (j a : Nat) (ha : a + 700 ≤ 1000000) : (tabG L j a).2 ≤ a + 600 := by
  have h0 := free_in L a
  have h1 := fkN_le L (a + 1 + 2 * freeG L a) j
  have h2 := fkE_le L (a + 1 + 2 * freeG L a) j
  have h3 := end_le L (nmG 116 j) (colsF L (a + 1) (freeG L a) (a + 1 + 2 * freeG L a) (fkN L (a + 1 + 2 * freeG L a) j)) (fksF L (a + 1 + 2 * freeG L a) j (freeG L a + 1) (fkN L (a + 1 + 2 * freeG L a) j)) (freeG L a) (fkE L (a + 1 + 2 * freeG L a) j) (by rw [colsF_len]; omega) (by omega)
  unfold tabG
  omega
theorem tabs_le (L : List Int) (a : Nat) : ∀ n, a + 600 * n + 700 ≤ 1000000 → (tabsG L a n).2 ≤ a + 600 * n
  | 0, _ => by simp [tabsG]
  | n + 1, h => by
    have h1 := tabs_le L a n (by omega)
    have h2 := tab_le L n (tabsG L a n).2 (by omega)
    simp only [tabsG]
    omega
def scF (L : List Int) (i0 N : Nat) : Nat → St
  | 0 => { s := mkS [(0, .ptr 1000000 0 0), (2, .ptr 2 0 0), (3, .ptr 3 0 0), (4, .d (.int .i64 N)), (5, .d (.int .i64 0))], b := mkB [(1000000, 1000000, tapB L i0), (2, 2, .var [.nils]), (3, 3, .var [.nils])] }
  | j + 1 => { s := mkS [(0, .ptr 1000000 0 0), (2, .ptr 2 0 0), (3, .ptr 3 0 0), (4, .d (.int .i64 N)), (5, .d (.int .i64 (j + 1 : Nat)))], b := mkB [(1000000, 1000000, tapB L (tabsG L i0 (j + 1)).2), (2, 2, .var [.nils]), (3, 3, .var [.ref 901 0 (j + 1) 6]), (901, 901, .arr 56 6 ((tabsG L i0 (j + 1)).1.map Tb.c) false)] }


theorem t_schema (L : List Int) (i : Nat) (hi : i ≤ 900000) :
    Cf En 17 [.ptr 1000000 0 0] [tapB L i] (.agg [.d (.sl ((tabsG L (i + 1) (freeG L i)).1.map Tb.c))]) [tapB L (tabsG L (i + 1) (freeG L i)).2] := by
  refine cf_intro mix (fn := Tryd.f17) (by kernel_rfl) rfl (by kernel_rfl) (by decide) (by simp) ?_
  have hn := nextV_in L i (n := 3) (by omega)
  have ht := t_next1 L i (by omega) 3 (by omega) (by omega)
  have hfr := free_in L i
  simp [tapB]
  (repeat' (first | contradiction | exact .of (by kernel_rfl) | refine And.intro ?_ ?_ | intro _ | (refine agrd_cases (fun h => ?_) (fun h => ?_) <;> (have h' := h; (try simp at h'); first | done | simp [h, h'] | simp))))
  refine acallT_hand [1000000] ht (by simp) (by simp) (by simp) (by simp [tapB]) (by simp) ?_
  obtain ⟨N, hN⟩ : ∃ N : Nat, N = freeG L i := ⟨_, rfl⟩
  have hN2 : (N : Int) = 1 + nextV L i 3 := by rw [hN]; unfold freeG; omega
  have hw := wrap_in (n := 1 + nextV L i 3) (by omega) (by omega)
  rw [← hN2] at hw
  rw [← hN]
  rw [← hN] at hfr
  clear hN
  simp [tapB, ← hN2, hw]
  (repeat' (first | contradiction | exact .of (by kernel_rfl) | refine And.intro ?_ ?_ | intro _ | (refine agrd_cases (fun h => ?_) (fun h => ?_) <;> (have h' := h; (try simp at h'); first | done | simp [h, h'] | simp))))
  clear ht hn hw hN2
  refine aloopT mix (by decide) (scF L (i + 1) N) (fun j => j ≤ N) (fun j => N - j) 0 (by simp) (sub_mk [(0, _), (2, _), (3, _), (4, _), (5, _)] [(1000000, 1000000, _), (2, 2, _), (3, 3, _)] ⟨by simp, by simp, by simp [renOf, Blk.live, tapB], base1⟩ (by simp [renOf])) ?_
  intro j hj
  by_cases hlt : j < N
  · cases j with
    | zero =>
      obtain ⟨a, ha⟩ : ∃ a, a = i + 1 := ⟨_, rfl⟩
      have hal : a ≤ 990000 := by omega
      have hlt' : (0 : Int) < N := by omega
      have hst : tabsG L (i + 1) 1 = ([(tabG L 0 a).1], (tabG L 0 a).2) := by simp [tabsG, ha]
      have e0 : scF L (i + 1) N 0 = scF L a N 0 := by rw [ha]
      rw [e0]
      simp [scF, tapB, hlt', hlt]
      (repeat' (first | contradiction | exact .of (by kernel_rfl) | refine And.intro ?_ ?_ | intro _ | (refine agrd_cases (fun h => ?_) (fun h => ?_) <;> (have h' := h; (try simp at h'); first | done | simp [h, h'] | simp))))
      refine acallT_plain (t_nm 116 0 0 (by simp) (by omega)) (by simp) ?_
      simp
      (repeat' (first | contradiction | exact .of (by kernel_rfl) | refine And.intro ?_ ?_ | intro _ | (refine agrd_cases (fun h => ?_) (fun h => ?_) <;> (have h' := h; (try simp at h'); first | done | simp [h, h'] | simp))))
      have hm := nextV_in L a (n := 3) (by omega)
      refine acallT_hand [1000000] (t_next1 L a (by omega) 3 (by omega) (by omega)) (by simp) (by simp) (by simp) (by simp [tapB]) (by simp) ?_
      have hfm := free_in L a
      obtain ⟨m, hmm⟩ : ∃ m : Nat, m = freeG L a := ⟨_, rfl⟩
      have hm2 : (m : Int) = 1 + nextV L a 3 := by rw [hmm]; unfold freeG; omega
      have hwm := wrap_in (n := 1 + nextV L a 3) (by omega) (by omega)
      rw [← hm2] at hwm
      rw [← hmm] at hfm
      have htab : tabG L 0 a = endG L (nmG 116 0) (colsF L (a + 1) m (a + 1 + 2 * m) (fkN L (a + 1 + 2 * m) 0)) (fksF L (a + 1 + 2 * m) 0 (m + 1) (fkN L (a + 1 + 2 * m) 0)) m (fkE L (a + 1 + 2 * m) 0) := by rw [hmm]; rfl
      rw [htab] at hst
      simp [tapB, ← hm2, hwm]
      (repeat' (first | contradiction | exact .of (by kernel_rfl) | refine And.intro ?_ ?_ | intro _ | (refine agrd_cases (fun h => ?_) (fun h => ?_) <;> (have h' := h; (try simp at h'); first | done | simp [h, h'] | simp))))
      clear hwm htab hm2 hm hmm
      refine aloopT mix (by decide) (fun k : Nat => { s := mkS [(0, .ptr 1000000 0 0), (2, .ptr 2 0 0), (3, .ptr 3 0 0), (4, .d (.int .i64 N)), (5, .d (.int .i64 0)), (6, .ptr 6 0 0), (7, .d (.int .i64 m)), (8, .d (.int .i64 k))], b := mkB [(1000000, 1000000, tapB L (a + 1 + 2 * k)), (2, 2, .var [.nils]), (3, 3, .var [.nils]), (6, 6, .var [.d (.str (nmG 116 0)), .ref 900 0 (k + 1) 3, .ref 902 0 1 1, .nils, .nils, .nils]), (900, 900, .arr 64 3 ((colsG L (a + 1) k).map Col.c) false), (902, 902, .arr 3 1 [[.int .i64 0]] false)] }) (fun k => k ≤ m) (fun k => m - k) 0 (by simp) (sub_mk _ [(1000000, 1000000, _), (2, 2, _), (3, 3, _), (6, 6, _), (900, 21, _), (902, 22, _)] ⟨by simp, by simp, by simp [renOf, Blk.live, tapB, colsG, upL, idC, Col.c], base1⟩ (by simp [renOf])) ?_
      intro k hk
      by_cases hkm : k < m
      · have hkm' : (k : Int) < m := by omega
        have hcl := colsG_len L (a + 1) k
        have hcs := colsG_succ L (a + 1) k
        have c1 := nextV_in L (a + 1 + 2 * k) (n := 3) (by omega)
        have c2 := nextV_in L (a + 1 + 2 * k + 1) (n := 2) (by omega)
        have hw1 := wrap_in (n := 1 + nextV L (a + 1 + 2 * k) 3) (by omega) (by omega)
        have hcg : (colG L (a + 1) k).c = [.str (nmG 99 k), .int .i64 (1 + nextV L (a + 1 + 2 * k) 3), .bool (nextV L (a + 1 + 2 * k + 1) 2 == 0)] := rfl
        simp [tapB, hkm', hkm]
        (repeat' (first | contradiction | exact .of (by kernel_rfl) | refine And.intro ?_ ?_ | intro _ | (refine agrd_cases (fun h => ?_) (fun h => ?_) <;> (have h' := h; (try simp at h'); first | done | simp [h, h'] | simp))))
        refine acallT_plain (t_nm 99 k _ rfl (by omega)) (by simp) ?_
        simp
        (repeat' (first | contradiction | exact .of (by kernel_rfl) | refine And.intro ?_ ?_ | intro _ | (refine agrd_cases (fun h => ?_) (fun h => ?_) <;> (have h' := h; (try simp at h'); first | done | simp [h, h'] | simp))))
        refine acallT_hand [1000000] (t_next1 L (a + 1 + 2 * k) (by omega) 3 (by omega) (by omega)) (by simp) (by simp) (by simp) (by simp [tapB]) (by simp) ?_
        simp [tapB, hw1]
        (repeat' (first | contradiction | exact .of (by kernel_rfl) | refine And.intro ?_ ?_ | intro _ | (refine agrd_cases (fun h => ?_) (fun h => ?_) <;> (have h' := h; (try simp at h'); first | done | simp [h, h'] | simp))))
        refine acallT_hand [1000000] (t_next1 L (a + 1 + 2 * k + 1) (by omega) 2 (by omega) (by omega)) (by simp) (by simp) (by simp) (by simp [tapB]) (by simp) ?_
        simp [tapB, hcl, szOk (k + 1 + 1) 32 (by omega) (by decide), leBig5 k (by omega)]
        (repeat' (first | contradiction | exact .of (by kernel_rfl) | refine And.intro ?_ ?_ | intro _ | (refine agrd_cases (fun h => ?_) (fun h => ?_) <;> (have h' := h; (try simp at h'); first | done | simp [h, h'] | simp))))
        refine ⟨k + 1, by omega, ?_, ?_⟩
        · refine sub_mk _ [(1000000, 1000000, _), (2, 2, _), (3, 3, _), (6, 6, _), (900, 44, _), (902, 902, _)] ⟨by simp, by simp, ?_, base1⟩ ?_
          · simp [renOf, Blk.live, tapB, hcs, hcg, hcl]
            try omega
          · simp [renOf]
            try rw [wrap_in (by omega) (by omega)]
        · simp; omega
      have hkm2 : k = m := by omega
      subst hkm2
      have hcl := colsG_len L (a + 1) k
      simp [tapB]
      (repeat' (first | contradiction | exact .of (by kernel_rfl) | refine And.intro ?_ ?_ | intro _ | (refine agrd_cases (fun h => ?_) (fun h => ?_) <;> (have h' := h; (try simp at h'); first | done | simp [h, h'] | simp))))
      refine aloopT mix (by decide) (fun _ : Unit => { s := mkS [(0, .ptr 1000000 0 0), (2, .ptr 2 0 0), (3, .ptr 3 0 0), (4, .d (.int .i64 N)), (5, .d (.int .i64 0)), (6, .ptr 6 0 0), (7, .d (.int .i64 k)), (9, .d (.int .i64 0))], b := mkB [(1000000, 1000000, tapB L (a + 1 + 2 * k)), (2, 2, .var [.nils]), (3, 3, .var [.nils]), (6, 6, .var [.d (.str (nmG 116 0)), .ref 900 0 (k + 1) 3, .ref 902 0 1 1, .nils, .nils, .nils]), (900, 900, .arr 64 3 ((colsG L (a + 1) k).map Col.c) false), (902, 902, .arr 3 1 [[.int .i64 0]] false)] }) (fun _ => True) (fun _ => 0) () trivial (sub_mk _ [(1000000, 1000000, _), (2, 2, _), (3, 3, _), (6, 6, _), (900, 900, _), (902, 902, _)] ⟨by simp, by simp, by simp [renOf, Blk.live, tapB], base1⟩ (by simp [renOf])) ?_
      intro _ _
      simp [tapB]
      (repeat' (first | contradiction | exact .of (by kernel_rfl) | refine And.intro ?_ ?_ | intro _ | (refine agrd_cases (fun h => ?_) (fun h => ?_) <;> (have h' := h; (try simp at h'); first | done | simp [h, h'] | simp))))
      have hfl : ([] : List (List D)).length = 0 := rfl
      have hgt : List.take 0 ([] : List (List D)) = [] := rfl
      have hst2 : tabsG L (i + 1) 1 = ([(endG L (nmG 116 0) (colsG L (a + 1) k) [] k (a + 1 + 2 * k)).1], (endG L (nmG 116 0) (colsG L (a + 1) k) [] k (a + 1 + 2 * k)).2) := by rw [hst]; simp [fkN, fkE, colsF_zero, fksF, upL]
      obtain ⟨C, hC⟩ : ∃ C, C = colsG L (a + 1) k := ⟨_, rfl⟩
      rw [← hC] at hst2 hcl ⊢
      clear hC
      have hct : List.take (k + 1) (C.map Col.c) = C.map Col.c := List.take_of_length_le (by simp [hcl])
      obtain ⟨a3, ha3⟩ : ∃ a3, a3 = a + 1 + 2 * k := ⟨_, rfl⟩
      rw [← ha3] at hst2
      rw [show ((a : Int) + 1 + 2 * k) = (a3 : Int) from by omega]
      have q0 := nextV_in L a3 (n := 4) (by omega)
      refine acallT_hand [1000000] (t_next1 L a3 (by omega) 4 (by omega) (by omega)) (by simp) (by simp) (by simp) (by simp [tapB]; try omega) (by simp) ?_
      by_cases u0 : nextV L a3 4 = 0
      · have q1 := nextV_in L (a3 + 1) (n := (k : Int)) (by omega)
        have hwu := wrap_in (n := 1 + nextV L (a3 + 1) k) (by omega) (by omega)
        simp [tapB, u0]
        (repeat' (first | contradiction | exact .of (by kernel_rfl) | refine And.intro ?_ ?_ | intro _ | (refine agrd_cases (fun h => ?_) (fun h => ?_) <;> (have h' := h; (try simp at h'); first | done | simp [h, h', u0] | simp [u0]))))
        refine acallT_hand [1000000] (t_next1 L (a3 + 1) (by omega) k (by omega) (by omega)) (by simp) (by simp) (by simp) (by simp [tapB]; try omega) (by simp) ?_
        simp [tapB, hwu]
        (repeat' (first | contradiction | exact .of (by kernel_rfl) | refine And.intro ?_ ?_ | intro _ | (refine agrd_cases (fun h => ?_) (fun h => ?_) <;> (have h' := h; (try simp at h'); first | done | simp [h, h'] | simp))))
        have q2 := nextV_in L (a3 + 2) (n := 4) (by omega)
        refine acallT_hand [1000000] (t_next1 L (a3 + 2) (by omega) 4 (by omega) (by omega)) (by simp) (by simp) (by simp) (by simp [tapB]; try omega) (by simp) ?_
        by_cases c0 : nextV L (a3 + 2) 4 = 0
        · have hE : tabsG L (i + 1) 1 = ([⟨nmG 116 0, C, [[.sl [[.int .i64 (1 + nextV L (a3 + 1) k)]]]], [], [(exprG L (C.map Col.t) 3 2 (a3 + 3)).1]⟩], (exprG L (C.map Col.t) 3 2 (a3 + 3)).2) := by
            rw [hst2]; simp [endG, u0, c0]
          have hexp := (t_expr L (C.map Col.t) (by simp [hcl]; omega) 3 (by omega) 2 (a3 + 3) (by simp [gb]; omega)).2
          simp [tapB, c0]
          (repeat' (first | contradiction | exact .of (by kernel_rfl) | refine And.intro ?_ ?_ | intro _ | (refine agrd_cases (fun h => ?_) (fun h => ?_) <;> (have h' := h; (try simp at h'); first | done | simp [h, h', c0] | simp [c0]))))
          refine acallT_plain (r_types ⟨nmG 116 0, C, [[.sl [[.int .i64 (1 + nextV L (a3 + 1) k)]]]], [], []⟩ (by simp [hcl]; omega)) (by simp [Tb.a, Tb.c, hcl, hfl, hct, hgt]) ?_
          simp [tapB, hcl, hfl, hct, hgt]
          (repeat' (first | contradiction | exact .of (by kernel_rfl) | refine And.intro ?_ ?_ | intro _ | (refine agrd_cases (fun h => ?_) (fun h => ?_) <;> (have h' := h; (try simp at h'); first | done | simp [h, h'] | simp))))
          refine acallT_hand [1000000] hexp (by simp) (by simp) (by simp) (by simp [tapB]; try omega) (by simp) ?_
          simp [tapB, Ex.a, Ex.ctake, Ex.clen, Ex.ctake', take6, hcl, hfl, hct, hgt]
          (repeat' (first | contradiction | exact .of (by kernel_rfl) | refine And.intro ?_ ?_ | intro _ | (refine agrd_cases (fun h => ?_) (fun h => ?_) <;> (have h' := h; (try simp at h'); first | done | simp [h, h'] | simp))))
          refine ⟨1, by omega, ?_, ?_⟩
          · refine sub_mk [(0, _), (2, _), (3, _), (4, _), (5, _)] [(1000000, 1000000, _), (2, 2, _), (3, 3, _), (901, 114, _)] ⟨by simp, by simp, ?_, base1⟩ ?_
            · simp [renOf, Blk.live, tapB, hE, Tb.c]
              try omega
            · simp [renOf]
              try rw [wrap_in (by omega) (by omega)]
          · simp; omega
        · have hE : tabsG L (i + 1) 1 = ([⟨nmG 116 0, C, [[.sl [[.int .i64 (1 + nextV L (a3 + 1) k)]]]], [], []⟩], (a3 + 3)) := by
            rw [hst2]; simp [endG, u0, c0]
          simp [tapB, c0, hcl, hfl, hct, hgt]
          (repeat' (first | contradiction | exact .of (by kernel_rfl) | refine And.intro ?_ ?_ | intro _ | (refine agrd_cases (fun h => ?_) (fun h => ?_) <;> (have h' := h; (try simp at h'); first | done | simp [h, h', c0] | simp [c0]))))
          refine ⟨1, by omega, ?_, ?_⟩
          · refine sub_mk [(0, _), (2, _), (3, _), (4, _), (5, _)] [(1000000, 1000000, _), (2, 2, _), (3, 3, _), (901, 114, _)] ⟨by simp, by simp, ?_, base1⟩ ?_
            · simp [renOf, Blk.live, tapB, hE, Tb.c]
              try omega
            · simp [renOf]
              try rw [wrap_in (by omega) (by omega)]
          · simp; omega
      · simp [tapB, u0]
        (repeat' (first | contradiction | exact .of (by kernel_rfl) | refine And.intro ?_ ?_ | intro _ | (refine agrd_cases (fun h => ?_) (fun h => ?_) <;> (have h' := h; (try simp at h'); first | done | simp [h, h', u0] | simp [u0]))))
        have q2 := nextV_in L (a3 + 1) (n := 4) (by omega)
        refine acallT_hand [1000000] (t_next1 L (a3 + 1) (by omega) 4 (by omega) (by omega)) (by simp) (by simp) (by simp) (by simp [tapB]; try omega) (by simp) ?_
        by_cases c0 : nextV L (a3 + 1) 4 = 0
        · have hE : tabsG L (i + 1) 1 = ([⟨nmG 116 0, C, [], [], [(exprG L (C.map Col.t) 3 2 (a3 + 2)).1]⟩], (exprG L (C.map Col.t) 3 2 (a3 + 2)).2) := by
            rw [hst2]; simp [endG, u0, c0]
          have hexp := (t_expr L (C.map Col.t) (by simp [hcl]; omega) 3 (by omega) 2 (a3 + 2) (by simp [gb]; omega)).2
          simp [tapB, c0]
          (repeat' (first | contradiction | exact .of (by kernel_rfl) | refine And.intro ?_ ?_ | intro _ | (refine agrd_cases (fun h => ?_) (fun h => ?_) <;> (have h' := h; (try simp at h'); first | done | simp [h, h', c0] | simp [c0]))))
          refine acallT_plain (r_types ⟨nmG 116 0, C, [], [], []⟩ (by simp [hcl]; omega)) (by simp [Tb.a, Tb.c, hcl, hfl, hct, hgt]) ?_
          simp [tapB, hcl, hfl, hct, hgt]
          (repeat' (first | contradiction | exact .of (by kernel_rfl) | refine And.intro ?_ ?_ | intro _ | (refine agrd_cases (fun h => ?_) (fun h => ?_) <;> (have h' := h; (try simp at h'); first | done | simp [h, h'] | simp))))
          refine acallT_hand [1000000] hexp (by simp) (by simp) (by simp) (by simp [tapB]; try omega) (by simp) ?_
          simp [tapB, Ex.a, Ex.ctake, Ex.clen, Ex.ctake', take6, hcl, hfl, hct, hgt]
          (repeat' (first | contradiction | exact .of (by kernel_rfl) | refine And.intro ?_ ?_ | intro _ | (refine agrd_cases (fun h => ?_) (fun h => ?_) <;> (have h' := h; (try simp at h'); first | done | simp [h, h'] | simp))))
          refine ⟨1, by omega, ?_, ?_⟩
          · refine sub_mk [(0, _), (2, _), (3, _), (4, _), (5, _)] [(1000000, 1000000, _), (2, 2, _), (3, 3, _), (901, 114, _)] ⟨by simp, by simp, ?_, base1⟩ ?_
            · simp [renOf, Blk.live, tapB, hE, Tb.c]
              try omega
            · simp [renOf]
              try rw [wrap_in (by omega) (by omega)]
          · simp; omega
        · have hE : tabsG L (i + 1) 1 = ([⟨nmG 116 0, C, [], [], []⟩], (a3 + 2)) := by
            rw [hst2]; simp [endG, u0, c0]
          simp [tapB, c0, hcl, hfl, hct, hgt]
          (repeat' (first | contradiction | exact .of (by kernel_rfl) | refine And.intro ?_ ?_ | intro _ | (refine agrd_cases (fun h => ?_) (fun h => ?_) <;> (have h' := h; (try simp at h'); first | done | simp [h, h', c0] | simp [c0]))))
          refine ⟨1, by omega, ?_, ?_⟩
          · refine sub_mk [(0, _), (2, _), (3, _), (4, _), (5, _)] [(1000000, 1000000, _), (2, 2, _), (3, 3, _), (901, 114, _)] ⟨by simp, by simp, ?_, base1⟩ ?_
            · simp [renOf, Blk.live, tapB, hE, Tb.c]
              try omega
            · simp [renOf]
              try rw [wrap_in (by omega) (by omega)]
          · simp; omega
    | succ j =>
      have hal0 := tabs_le L (i + 1) (j + 1) (by omega)
      have hTl0 := tabsG_len L (i + 1) (j + 1)
      have hst0 : tabsG L (i + 1) (j + 1 + 1) = ((tabsG L (i + 1) (j + 1)).1 ++ [(tabG L (j + 1) (tabsG L (i + 1) (j + 1)).2).1], (tabG L (j + 1) (tabsG L (i + 1) (j + 1)).2).2) := rfl
      obtain ⟨T, hT⟩ : ∃ T, T = (tabsG L (i + 1) (j + 1)).1 := ⟨_, rfl⟩
      obtain ⟨a, ha⟩ : ∃ a, a = (tabsG L (i + 1) (j + 1)).2 := ⟨_, rfl⟩
      have hal : a ≤ 990000 := by omega
      have hTl : T.length = j + 1 := by rw [hT]; exact hTl0
      have hst : tabsG L (i + 1) (j + 1 + 1) = (T ++ [(tabG L (j + 1) a).1], (tabG L (j + 1) a).2) := by rw [hst0, hT, ha]
      have e0 : scF L (i + 1) N (j + 1) = { s := mkS [(0, .ptr 1000000 0 0), (2, .ptr 2 0 0), (3, .ptr 3 0 0), (4, .d (.int .i64 N)), (5, .d (.int .i64 (j + 1 : Nat)))], b := mkB [(1000000, 1000000, tapB L a), (2, 2, .var [.nils]), (3, 3, .var [.ref 901 0 (j + 1) 6]), (901, 901, .arr 56 6 (T.map Tb.c) false)] } := by rw [hT, ha]; rfl
      rw [e0]
      clear hst0 hal0 hTl0 e0
      clear ha hT
      have hlt' : (j : Int) + 1 < N := by omega
      have hj0 : (0 : Int) < (j : Int) + 1 := by omega
      have hj3 : j ≤ 3 := by omega
      simp [scF, tapB, hlt', hlt]
      (repeat' (first | contradiction | exact .of (by kernel_rfl) | refine And.intro ?_ ?_ | intro _ | (refine agrd_cases (fun h => ?_) (fun h => ?_) <;> (have h' := h; (try simp at h'); first | done | simp [h, h'] | simp))))
      refine acallT_plain (t_nm 116 (j + 1) ((j : Int) + 1) (by simp) (by omega)) (by simp) ?_
      simp
      (repeat' (first | contradiction | exact .of (by kernel_rfl) | refine And.intro ?_ ?_ | intro _ | (refine agrd_cases (fun h => ?_) (fun h => ?_) <;> (have h' := h; (try simp at h'); first | done | simp [h, h'] | simp))))
      have hm := nextV_in L a (n := 3) (by omega)
      refine acallT_hand [1000000] (t_next1 L a (by omega) 3 (by omega) (by omega)) (by simp) (by simp) (by simp) (by simp [tapB]) (by simp) ?_
      have hfm := free_in L a
      obtain ⟨m, hmm⟩ : ∃ m : Nat, m = freeG L a := ⟨_, rfl⟩
      have hm2 : (m : Int) = 1 + nextV L a 3 := by rw [hmm]; unfold freeG; omega
      have hwm := wrap_in (n := 1 + nextV L a 3) (by omega) (by omega)
      rw [← hm2] at hwm
      rw [← hmm] at hfm
      have htab : tabG L (j + 1) a = endG L (nmG 116 (j + 1)) (colsF L (a + 1) m (a + 1 + 2 * m) (fkN L (a + 1 + 2 * m) (j + 1))) (fksF L (a + 1 + 2 * m) (j + 1) (m + 1) (fkN L (a + 1 + 2 * m) (j + 1))) m (fkE L (a + 1 + 2 * m) (j + 1)) := by rw [hmm]; rfl
      rw [htab] at hst
      simp [tapB, ← hm2, hwm]
      (repeat' (first | contradiction | exact .of (by kernel_rfl) | refine And.intro ?_ ?_ | intro _ | (refine agrd_cases (fun h => ?_) (fun h => ?_) <;> (have h' := h; (try simp at h'); first | done | simp [h, h'] | simp))))
      clear hwm htab hm2 hm hmm
      refine aloopT mix (by decide) (fun k : Nat => { s := mkS [(0, .ptr 1000000 0 0), (2, .ptr 2 0 0), (3, .ptr 3 0 0), (4, .d (.int .i64 N)), (5, .d (.int .i64 ((j : Int) + 1))), (6, .ptr 6 0 0), (7, .d (.int .i64 m)), (8, .d (.int .i64 k))], b := mkB [(1000000, 1000000, tapB L (a + 1 + 2 * k)), (2, 2, .var [.nils]), (3, 3, .var [.ref 901 0 (j + 1) 6]), (901, 901, .arr 56 6 (T.map Tb.c) false), (6, 6, .var [.d (.str (nmG 116 (j + 1))), .ref 900 0 (k + 1) 3, .ref 902 0 1 1, .nils, .nils, .nils]), (900, 900, .arr 64 3 ((colsG L (a + 1) k).map Col.c) false), (902, 902, .arr 3 1 [[.int .i64 0]] false)] }) (fun k => k ≤ m) (fun k => m - k) 0 (by simp) (sub_mk _ [(1000000, 1000000, _), (2, 2, _), (3, 3, _), (901, 901, _), (6, 6, _), (900, 21, _), (902, 22, _)] ⟨by simp, by simp, by simp [renOf, Blk.live, tapB, colsG, upL, idC, Col.c], base1⟩ (by simp [renOf])) ?_
      intro k hk
      by_cases hkm : k < m
      · have hkm' : (k : Int) < m := by omega
        have hcl := colsG_len L (a + 1) k
        have hcs := colsG_succ L (a + 1) k
        have c1 := nextV_in L (a + 1 + 2 * k) (n := 3) (by omega)
        have c2 := nextV_in L (a + 1 + 2 * k + 1) (n := 2) (by omega)
        have hw1 := wrap_in (n := 1 + nextV L (a + 1 + 2 * k) 3) (by omega) (by omega)
        have hcg : (colG L (a + 1) k).c = [.str (nmG 99 k), .int .i64 (1 + nextV L (a + 1 + 2 * k) 3), .bool (nextV L (a + 1 + 2 * k + 1) 2 == 0)] := rfl
        simp [tapB, hkm', hkm]
        (repeat' (first | contradiction | exact .of (by kernel_rfl) | refine And.intro ?_ ?_ | intro _ | (refine agrd_cases (fun h => ?_) (fun h => ?_) <;> (have h' := h; (try simp at h'); first | done | simp [h, h'] | simp))))
        refine acallT_plain (t_nm 99 k _ rfl (by omega)) (by simp) ?_
        simp
        (repeat' (first | contradiction | exact .of (by kernel_rfl) | refine And.intro ?_ ?_ | intro _ | (refine agrd_cases (fun h => ?_) (fun h => ?_) <;> (have h' := h; (try simp at h'); first | done | simp [h, h'] | simp))))
        refine acallT_hand [1000000] (t_next1 L (a + 1 + 2 * k) (by omega) 3 (by omega) (by omega)) (by simp) (by simp) (by simp) (by simp [tapB]) (by simp) ?_
        simp [tapB, hw1]
        (repeat' (first | contradiction | exact .of (by kernel_rfl) | refine And.intro ?_ ?_ | intro _ | (refine agrd_cases (fun h => ?_) (fun h => ?_) <;> (have h' := h; (try simp at h'); first | done | simp [h, h'] | simp))))
        refine acallT_hand [1000000] (t_next1 L (a + 1 + 2 * k + 1) (by omega) 2 (by omega) (by omega)) (by simp) (by simp) (by simp) (by simp [tapB]) (by simp) ?_
        simp [tapB, hcl, szOk (k + 1 + 1) 32 (by omega) (by decide), leBig5 k (by omega)]
        (repeat' (first | contradiction | exact .of (by kernel_rfl) | refine And.intro ?_ ?_ | intro _ | (refine agrd_cases (fun h => ?_) (fun h => ?_) <;> (have h' := h; (try simp at h'); first | done | simp [h, h'] | simp))))
        refine ⟨k + 1, by omega, ?_, ?_⟩
        · refine sub_mk _ [(1000000, 1000000, _), (2, 2, _), (3, 3, _), (901, 901, _), (6, 6, _), (900, 44, _), (902, 902, _)] ⟨by simp, by simp, ?_, base1⟩ ?_
          · simp [renOf, Blk.live, tapB, hcs, hcg, hcl]
            try omega
          · simp [renOf]
            try rw [wrap_in (by omega) (by omega)]
        · simp; omega
      have hkm2 : k = m := by omega
      subst hkm2
      have hcl := colsG_len L (a + 1) k
      simp [tapB]
      (repeat' (first | contradiction | exact .of (by kernel_rfl) | refine And.intro ?_ ?_ | intro _ | (refine agrd_cases (fun h => ?_) (fun h => ?_) <;> (have h' := h; (try simp at h'); first | done | simp [h, h'] | simp))))
      refine aloopT mix (by decide) (fun z : Nat => match z with
        | 0 => { s := mkS [(0, .ptr 1000000 0 0), (2, .ptr 2 0 0), (3, .ptr 3 0 0), (4, .d (.int .i64 N)), (5, .d (.int .i64 ((j : Int) + 1))), (6, .ptr 6 0 0), (7, .d (.int .i64 k)), (9, .d (.int .i64 0))], b := mkB [(1000000, 1000000, tapB L (a + 1 + 2 * k)), (2, 2, .var [.nils]), (3, 3, .var [.ref 901 0 (j + 1) 6]), (901, 901, .arr 56 6 (T.map Tb.c) false), (6, 6, .var [.d (.str (nmG 116 (j + 1))), .ref 900 0 (k + 1) 3, .ref 902 0 1 1, .nils, .nils, .nils]), (900, 900, .arr 64 3 ((colsF L (a + 1) k (a + 1 + 2 * k) 0).map Col.c) false), (902, 902, .arr 3 1 [[.int .i64 0]] false)] }
        | z + 1 => { s := mkS [(0, .ptr 1000000 0 0), (2, .ptr 2 0 0), (3, .ptr 3 0 0), (4, .d (.int .i64 N)), (5, .d (.int .i64 ((j : Int) + 1))), (6, .ptr 6 0 0), (7, .d (.int .i64 k)), (9, .d (.int .i64 ((z : Int) + 1)))], b := mkB [(1000000, 1000000, tapB L (a + 1 + 2 * k + 3 * (z + 1))), (2, 2, .var [.nils]), (3, 3, .var [.ref 901 0 (j + 1) 6]), (901, 901, .arr 56 6 (T.map Tb.c) false), (6, 6, .var [.d (.str (nmG 116 (j + 1))), .ref 900 0 (k + 1 + (z + 1)) 3, .ref 902 0 1 1, .nils, .ref 903 0 (z + 1) 2, .nils]), (900, 900, .arr 64 3 ((colsF L (a + 1) k (a + 1 + 2 * k) (z + 1)).map Col.c) false), (902, 902, .arr 3 1 [[.int .i64 0]] false), (903, 903, .arr 94 2 (fksF L (a + 1 + 2 * k) (j + 1) (k + 1) (z + 1)) false)] }) (fun z => z ≤ 2 ∧ (0 < z → ¬ nextV L (a + 1 + 2 * k) 3 = 0) ∧ (1 < z → ¬ nextV L (a + 1 + 2 * k + 3) 3 = 0)) (fun z => 2 - z) 0 (by simp) (sub_mk _ [(1000000, 1000000, _), (2, 2, _), (3, 3, _), (901, 901, _), (6, 6, _), (900, 900, _), (902, 902, _)] ⟨by simp, by simp, by simp [renOf, Blk.live, tapB, colsF_zero], base1⟩ (by simp [renOf])) ?_
      intro z hz
      obtain ⟨hz0, hz1, hz2⟩ := hz
      have f0 := nextV_in L (a + 1 + 2 * k) (n := 3) (by omega)
      have f1 := nextV_in L (a + 1 + 2 * k + 3) (n := 3) (by omega)
      have hclz := colsF_len L (a + 1) k (a + 1 + 2 * k) z
      have hcsz := colsF_succ L (a + 1) k (a + 1 + 2 * k) z
      have hflz := fksF_len L (a + 1 + 2 * k) (j + 1) (k + 1) z
      have hfsz := fksF_succ L (a + 1 + 2 * k) (j + 1) (k + 1) z
      rcases (by omega : z = 0 ∨ z = 1 ∨ z = 2) with rfl | rfl | rfl
      · have hn3 := nextV_in L (a + 1 + 2 * k) (n := 3) (by omega)
        simp [tapB, hj0]
        (repeat' (first | contradiction | exact .of (by kernel_rfl) | refine And.intro ?_ ?_ | intro _ | (refine agrd_cases (fun h => ?_) (fun h => ?_) <;> (have h' := h; (try simp at h'); first | done | simp [h, h', hj0] | simp [hj0]))))
        refine acallT_hand [1000000] (t_next1 L (a + 1 + 2 * k) (by omega) 3 (by omega) (by omega)) (by simp) (by simp) (by simp) (by simp [tapB]) (by simp) ?_
        by_cases h0 : nextV L (a + 1 + 2 * k) 3 = 0
        · simp [tapB, h0]
          (repeat' (first | contradiction | exact .of (by kernel_rfl) | refine And.intro ?_ ?_ | intro _ | (refine agrd_cases (fun h => ?_) (fun h => ?_) <;> (have h' := h; (try simp at h'); first | done | simp [h, h', h0] | simp [h0]))))
          have hst2 : tabsG L (i + 1) (j + 1 + 1) = (T ++ [(endG L (nmG 116 (j + 1)) (colsF L (a + 1) k (a + 1 + 2 * k) 0) (fksF L (a + 1 + 2 * k) (j + 1) (k + 1) 0) k (a + 1 + 2 * k + 1)).1], (endG L (nmG 116 (j + 1)) (colsF L (a + 1) k (a + 1 + 2 * k) 0) (fksF L (a + 1 + 2 * k) (j + 1) (k + 1) 0) k (a + 1 + 2 * k + 1)).2) := by
            rw [hst]; simp [fkN, fkE, h0]
          have hcl := hclz
          have hfl := hflz
          obtain ⟨C, hC⟩ : ∃ C, C = colsF L (a + 1) k (a + 1 + 2 * k) 0 := ⟨_, rfl⟩
          obtain ⟨G, hG⟩ : ∃ G, G = fksF L (a + 1 + 2 * k) (j + 1) (k + 1) 0 := ⟨_, rfl⟩
          rw [← hC] at hst2 hcl
          try rw [← hC]
          rw [← hG] at hst2 hfl
          try rw [← hG]
          clear hC
          have hct : List.take (k + 1) (C.map Col.c) = C.map Col.c := List.take_of_length_le (by simp [hcl])
          have hgt : List.take 0 G = G := List.take_of_length_le (by omega)
          have hG0 : G = [] := by rw [hG]; simp [fksF, upL]
          clear hG
          subst hG0
          obtain ⟨a3, ha3⟩ : ∃ a3, a3 = a + 1 + 2 * k + 1 := ⟨_, rfl⟩
          rw [← ha3] at hst2
          rw [show ((a : Int) + 1 + 2 * k + 1) = (a3 : Int) from by omega]
          have q0 := nextV_in L a3 (n := 4) (by omega)
          refine acallT_hand [1000000] (t_next1 L a3 (by omega) 4 (by omega) (by omega)) (by simp) (by simp) (by simp) (by simp [tapB]; try omega) (by simp) ?_
          by_cases u0 : nextV L a3 4 = 0
          · have q1 := nextV_in L (a3 + 1) (n := (k : Int)) (by omega)
            have hwu := wrap_in (n := 1 + nextV L (a3 + 1) k) (by omega) (by omega)
            simp [tapB, u0]
            (repeat' (first | contradiction | exact .of (by kernel_rfl) | refine And.intro ?_ ?_ | intro _ | (refine agrd_cases (fun h => ?_) (fun h => ?_) <;> (have h' := h; (try simp at h'); first | done | simp [h, h', u0] | simp [u0]))))
            refine acallT_hand [1000000] (t_next1 L (a3 + 1) (by omega) k (by omega) (by omega)) (by simp) (by simp) (by simp) (by simp [tapB]; try omega) (by simp) ?_
            simp [tapB, hwu]
            (repeat' (first | contradiction | exact .of (by kernel_rfl) | refine And.intro ?_ ?_ | intro _ | (refine agrd_cases (fun h => ?_) (fun h => ?_) <;> (have h' := h; (try simp at h'); first | done | simp [h, h'] | simp))))
            have q2 := nextV_in L (a3 + 2) (n := 4) (by omega)
            refine acallT_hand [1000000] (t_next1 L (a3 + 2) (by omega) 4 (by omega) (by omega)) (by simp) (by simp) (by simp) (by simp [tapB]; try omega) (by simp) ?_
            by_cases c0 : nextV L (a3 + 2) 4 = 0
            · have hE : tabsG L (i + 1) (j + 1 + 1) = (T ++ [⟨nmG 116 (j + 1), C, [[.sl [[.int .i64 (1 + nextV L (a3 + 1) k)]]]], [], [(exprG L (C.map Col.t) 3 2 (a3 + 3)).1]⟩], (exprG L (C.map Col.t) 3 2 (a3 + 3)).2) := by
                rw [hst2]; simp [endG, u0, c0]
              have hexp := (t_expr L (C.map Col.t) (by simp [hcl]; omega) 3 (by omega) 2 (a3 + 3) (by simp [gb]; omega)).2
              simp [tapB, c0]
              (repeat' (first | contradiction | exact .of (by kernel_rfl) | refine And.intro ?_ ?_ | intro _ | (refine agrd_cases (fun h => ?_) (fun h => ?_) <;> (have h' := h; (try simp at h'); first | done | simp [h, h', c0] | simp [c0]))))
              refine acallT_plain (r_types ⟨nmG 116 (j + 1), C, [[.sl [[.int .i64 (1 + nextV L (a3 + 1) k)]]]], [], []⟩ (by simp [hcl]; omega)) (by simp [Tb.a, Tb.c, hcl, hfl, hct, hgt]) ?_
              simp [tapB, hcl, hfl, hct, hgt]
              (repeat' (first | contradiction | exact .of (by kernel_rfl) | refine And.intro ?_ ?_ | intro _ | (refine agrd_cases (fun h => ?_) (fun h => ?_) <;> (have h' := h; (try simp at h'); first | done | simp [h, h'] | simp))))
              refine acallT_hand [1000000] hexp (by simp) (by simp) (by simp) (by simp [tapB]; try omega) (by simp) ?_
              simp [tapB, Ex.a, Ex.ctake, Ex.clen, Ex.ctake', take6, hcl, hfl, hct, hgt, hTl, szOk (j + 1 + 1) 136 (by omega) (by decide), leBig5 j (by omega)]
              (repeat' (first | contradiction | exact .of (by kernel_rfl) | refine And.intro ?_ ?_ | intro _ | (refine agrd_cases (fun h => ?_) (fun h => ?_) <;> (have h' := h; (try simp at h'); first | done | simp [h, h'] | simp))))
              refine ⟨j + 2, by omega, ?_, ?_⟩
              · refine sub_mk [(0, _), (2, _), (3, _), (4, _), (5, _)] [(1000000, 1000000, _), (2, 2, _), (3, 3, _), (901, 114, _)] ⟨by simp, by simp, ?_, base1⟩ ?_
                · simp [renOf, Blk.live, tapB, hE, Tb.c, hTl]
                  try omega
                · simp [renOf]
                  try rw [wrap_in (by omega) (by omega)]
              · simp; omega
            · have hE : tabsG L (i + 1) (j + 1 + 1) = (T ++ [⟨nmG 116 (j + 1), C, [[.sl [[.int .i64 (1 + nextV L (a3 + 1) k)]]]], [], []⟩], (a3 + 3)) := by
                rw [hst2]; simp [endG, u0, c0]
              simp [tapB, c0, hcl, hfl, hct, hgt, hTl, szOk (j + 1 + 1) 136 (by omega) (by decide), leBig5 j (by omega)]
              (repeat' (first | contradiction | exact .of (by kernel_rfl) | refine And.intro ?_ ?_ | intro _ | (refine agrd_cases (fun h => ?_) (fun h => ?_) <;> (have h' := h; (try simp at h'); first | done | simp [h, h', c0] | simp [c0]))))
              refine ⟨j + 2, by omega, ?_, ?_⟩
              · refine sub_mk [(0, _), (2, _), (3, _), (4, _), (5, _)] [(1000000, 1000000, _), (2, 2, _), (3, 3, _), (901, 114, _)] ⟨by simp, by simp, ?_, base1⟩ ?_
                · simp [renOf, Blk.live, tapB, hE, Tb.c, hTl]
                  try omega
                · simp [renOf]
                  try rw [wrap_in (by omega) (by omega)]
              · simp; omega
          · simp [tapB, u0]
            (repeat' (first | contradiction | exact .of (by kernel_rfl) | refine And.intro ?_ ?_ | intro _ | (refine agrd_cases (fun h => ?_) (fun h => ?_) <;> (have h' := h; (try simp at h'); first | done | simp [h, h', u0] | simp [u0]))))
            have q2 := nextV_in L (a3 + 1) (n := 4) (by omega)
            refine acallT_hand [1000000] (t_next1 L (a3 + 1) (by omega) 4 (by omega) (by omega)) (by simp) (by simp) (by simp) (by simp [tapB]; try omega) (by simp) ?_
            by_cases c0 : nextV L (a3 + 1) 4 = 0
            · have hE : tabsG L (i + 1) (j + 1 + 1) = (T ++ [⟨nmG 116 (j + 1), C, [], [], [(exprG L (C.map Col.t) 3 2 (a3 + 2)).1]⟩], (exprG L (C.map Col.t) 3 2 (a3 + 2)).2) := by
                rw [hst2]; simp [endG, u0, c0]
              have hexp := (t_expr L (C.map Col.t) (by simp [hcl]; omega) 3 (by omega) 2 (a3 + 2) (by simp [gb]; omega)).2
              simp [tapB, c0]
              (repeat' (first | contradiction | exact .of (by kernel_rfl) | refine And.intro ?_ ?_ | intro _ | (refine agrd_cases (fun h => ?_) (fun h => ?_) <;> (have h' := h; (try simp at h'); first | done | simp [h, h', c0] | simp [c0]))))
              refine acallT_plain (r_types ⟨nmG 116 (j + 1), C, [], [], []⟩ (by simp [hcl]; omega)) (by simp [Tb.a, Tb.c, hcl, hfl, hct, hgt]) ?_
              simp [tapB, hcl, hfl, hct, hgt]
              (repeat' (first | contradiction | exact .of (by kernel_rfl) | refine And.intro ?_ ?_ | intro _ | (refine agrd_cases (fun h => ?_) (fun h => ?_) <;> (have h' := h; (try simp at h'); first | done | simp [h, h'] | simp))))
              refine acallT_hand [1000000] hexp (by simp) (by simp) (by simp) (by simp [tapB]; try omega) (by simp) ?_
              simp [tapB, Ex.a, Ex.ctake, Ex.clen, Ex.ctake', take6, hcl, hfl, hct, hgt, hTl, szOk (j + 1 + 1) 136 (by omega) (by decide), leBig5 j (by omega)]
              (repeat' (first | contradiction | exact .of (by kernel_rfl) | refine And.intro ?_ ?_ | intro _ | (refine agrd_cases (fun h => ?_) (fun h => ?_) <;> (have h' := h; (try simp at h'); first | done | simp [h, h'] | simp))))
              refine ⟨j + 2, by omega, ?_, ?_⟩
              · refine sub_mk [(0, _), (2, _), (3, _), (4, _), (5, _)] [(1000000, 1000000, _), (2, 2, _), (3, 3, _), (901, 114, _)] ⟨by simp, by simp, ?_, base1⟩ ?_
                · simp [renOf, Blk.live, tapB, hE, Tb.c, hTl]
                  try omega
                · simp [renOf]
                  try rw [wrap_in (by omega) (by omega)]
              · simp; omega
            · have hE : tabsG L (i + 1) (j + 1 + 1) = (T ++ [⟨nmG 116 (j + 1), C, [], [], []⟩], (a3 + 2)) := by
                rw [hst2]; simp [endG, u0, c0]
              simp [tapB, c0, hcl, hfl, hct, hgt, hTl, szOk (j + 1 + 1) 136 (by omega) (by decide), leBig5 j (by omega)]
              (repeat' (first | contradiction | exact .of (by kernel_rfl) | refine And.intro ?_ ?_ | intro _ | (refine agrd_cases (fun h => ?_) (fun h => ?_) <;> (have h' := h; (try simp at h'); first | done | simp [h, h', c0] | simp [c0]))))
              refine ⟨j + 2, by omega, ?_, ?_⟩
              · refine sub_mk [(0, _), (2, _), (3, _), (4, _), (5, _)] [(1000000, 1000000, _), (2, 2, _), (3, 3, _), (901, 114, _)] ⟨by simp, by simp, ?_, base1⟩ ?_
                · simp [renOf, Blk.live, tapB, hE, Tb.c, hTl]
                  try omega
                · simp [renOf]
                  try rw [wrap_in (by omega) (by omega)]
              · simp; omega
        have h1 : 0 < nextV L (a + 1 + 2 * k) 3 := by omega
        have n4 := nextV_in L (a + 1 + 2 * k + 1) (n := 4) (by omega)
        have n5 := nextV_in L (a + 1 + 2 * k + 2) (n := (j : Int) + 1) (by omega)
        have hfc : (fcolG L (a + 1 + 2 * k) 0).c = [.str (nmG 102 0), .int .i64 1, .bool (nextV L (a + 1 + 2 * k + 1) 4 == 0)] := by simp [fcolG, Col.c]
        have hfk : fkG L (a + 1 + 2 * k) (j + 1) (k + 1) 0 = [.sl [[.int .i64 ((k : Int) + 1)]], .str (nmG 116 (nextV L (a + 1 + 2 * k + 2) ((j : Int) + 1)).toNat)] := by simp [fkG]; try omega
        have hwk : IntKind.i64.wrap ((k : Int) + 2 - 1) = (k : Int) + 1 := by rw [wrap_in (by omega) (by omega)]; omega
        simp [tapB, h1]
        (repeat' (first | contradiction | exact .of (by kernel_rfl) | refine And.intro ?_ ?_ | intro _ | (refine agrd_cases (fun h => ?_) (fun h => ?_) <;> (have h' := h; (try simp at h'); first | done | simp [h, h', h1] | simp [h1]))))
        refine acallT_plain (t_nm 102 0 0 (by simp) (by omega)) (by simp) ?_
        simp [hclz]
        (repeat' (first | contradiction | exact .of (by kernel_rfl) | refine And.intro ?_ ?_ | intro _ | (refine agrd_cases (fun h => ?_) (fun h => ?_) <;> (have h' := h; (try simp at h'); first | done | simp [h, h'] | simp))))
        refine acallT_hand [1000000] (t_next1 L (a + 1 + 2 * k + 1) (by omega) 4 (by omega) (by omega)) (by simp) (by simp) (by simp) (by simp [tapB]; try omega) (by simp) ?_
        simp [tapB, hclz, szOk (k + 1 + 1) 32 (by omega) (by decide), leBig5 (k + 0) (by omega), leBig k (by omega), leBig5 k (by omega), leBig4 k (by omega), hwk]
        (repeat' (first | contradiction | exact .of (by kernel_rfl) | refine And.intro ?_ ?_ | intro _ | (refine agrd_cases (fun h => ?_) (fun h => ?_) <;> (have h' := h; (try simp at h'); first | done | simp [h, h'] | simp))))
        refine acallT_hand [1000000] (t_next1 L (a + 1 + 2 * k + 2) (by omega) ((j : Int) + 1) (by omega) (by omega)) (by simp) (by simp) (by simp) (by simp [tapB]; try omega) (by simp) ?_
        simp [tapB, hclz, hflz]
        (repeat' (first | contradiction | exact .of (by kernel_rfl) | refine And.intro ?_ ?_ | intro _ | (refine agrd_cases (fun h => ?_) (fun h => ?_) <;> (have h' := h; (try simp at h'); first | done | simp [h, h'] | simp))))
        refine acallT_plain (t_nm 116 (nextV L (a + 1 + 2 * k + 2) ((j : Int) + 1)).toNat (nextV L (a + 1 + 2 * k + 2) ((j : Int) + 1)) (by omega) (by omega)) (by simp) ?_
        simp [hclz, hflz]
        (repeat' (first | contradiction | exact .of (by kernel_rfl) | refine And.intro ?_ ?_ | intro _ | (refine agrd_cases (fun h => ?_) (fun h => ?_) <;> (have h' := h; (try simp at h'); first | done | simp [h, h'] | simp))))
        refine ⟨1, ⟨by omega, by intro _; exact h0, by omega⟩, ?_, ?_⟩
        · refine sub_mk _ [(1000000, 1000000, _), (2, 2, _), (3, 3, _), (901, 901, _), (6, 6, _), (900, 68, _), (902, 902, _), (903, 83, _)] ⟨by simp, by simp, ?_, base1⟩ ?_
          · simp [renOf, Blk.live, tapB, hcsz, hfsz, hfc, hfk, hclz, hflz, fksF, upL]
            try omega
            try exact ⟨by omega, wrap_in (by omega) (by omega)⟩
          · simp [renOf]
            try rw [wrap_in (by omega) (by omega)]
        · simp
      · have hn3 := nextV_in L (a + 1 + 2 * k + 3) (n := 3) (by omega)
        simp [tapB, hj0]
        (repeat' (first | contradiction | exact .of (by kernel_rfl) | refine And.intro ?_ ?_ | intro _ | (refine agrd_cases (fun h => ?_) (fun h => ?_) <;> (have h' := h; (try simp at h'); first | done | simp [h, h', hj0] | simp [hj0]))))
        refine acallT_hand [1000000] (t_next1 L (a + 1 + 2 * k + 3) (by omega) 3 (by omega) (by omega)) (by simp) (by simp) (by simp) (by simp [tapB]) (by simp) ?_
        by_cases h0 : nextV L (a + 1 + 2 * k + 3) 3 = 0
        · simp [tapB, h0]
          (repeat' (first | contradiction | exact .of (by kernel_rfl) | refine And.intro ?_ ?_ | intro _ | (refine agrd_cases (fun h => ?_) (fun h => ?_) <;> (have h' := h; (try simp at h'); first | done | simp [h, h', h0] | simp [h0]))))
          have hst2 : tabsG L (i + 1) (j + 1 + 1) = (T ++ [(endG L (nmG 116 (j + 1)) (colsF L (a + 1) k (a + 1 + 2 * k) 1) (fksF L (a + 1 + 2 * k) (j + 1) (k + 1) 1) k (a + 1 + 2 * k + 3 + 1)).1], (endG L (nmG 116 (j + 1)) (colsF L (a + 1) k (a + 1 + 2 * k) 1) (fksF L (a + 1 + 2 * k) (j + 1) (k + 1) 1) k (a + 1 + 2 * k + 3 + 1)).2) := by
            rw [hst]; simp [fkN, fkE, hz1, h0]
          have hcl := hclz
          have hfl := hflz
          obtain ⟨C, hC⟩ : ∃ C, C = colsF L (a + 1) k (a + 1 + 2 * k) 1 := ⟨_, rfl⟩
          obtain ⟨G, hG⟩ : ∃ G, G = fksF L (a + 1 + 2 * k) (j + 1) (k + 1) 1 := ⟨_, rfl⟩
          rw [← hC] at hst2 hcl
          try rw [← hC]
          rw [← hG] at hst2 hfl
          try rw [← hG]
          clear hC
          have hct : List.take (k + 1 + 1) (C.map Col.c) = C.map Col.c := List.take_of_length_le (by simp [hcl])
          have hgt : List.take 1 G = G := List.take_of_length_le (by omega)
          obtain ⟨a3, ha3⟩ : ∃ a3, a3 = a + 1 + 2 * k + 3 + 1 := ⟨_, rfl⟩
          rw [← ha3] at hst2
          rw [show ((a : Int) + 1 + 2 * k + 3 + 1) = (a3 : Int) from by omega]
          have q0 := nextV_in L a3 (n := 4) (by omega)
          refine acallT_hand [1000000] (t_next1 L a3 (by omega) 4 (by omega) (by omega)) (by simp) (by simp) (by simp) (by simp [tapB]; try omega) (by simp) ?_
          by_cases u0 : nextV L a3 4 = 0
          · have q1 := nextV_in L (a3 + 1) (n := (k : Int)) (by omega)
            have hwu := wrap_in (n := 1 + nextV L (a3 + 1) k) (by omega) (by omega)
            simp [tapB, u0]
            (repeat' (first | contradiction | exact .of (by kernel_rfl) | refine And.intro ?_ ?_ | intro _ | (refine agrd_cases (fun h => ?_) (fun h => ?_) <;> (have h' := h; (try simp at h'); first | done | simp [h, h', u0] | simp [u0]))))
            refine acallT_hand [1000000] (t_next1 L (a3 + 1) (by omega) k (by omega) (by omega)) (by simp) (by simp) (by simp) (by simp [tapB]; try omega) (by simp) ?_
            simp [tapB, hwu]
            (repeat' (first | contradiction | exact .of (by kernel_rfl) | refine And.intro ?_ ?_ | intro _ | (refine agrd_cases (fun h => ?_) (fun h => ?_) <;> (have h' := h; (try simp at h'); first | done | simp [h, h'] | simp))))
            have q2 := nextV_in L (a3 + 2) (n := 4) (by omega)
            refine acallT_hand [1000000] (t_next1 L (a3 + 2) (by omega) 4 (by omega) (by omega)) (by simp) (by simp) (by simp) (by simp [tapB]; try omega) (by simp) ?_
            by_cases c0 : nextV L (a3 + 2) 4 = 0
            · have hE : tabsG L (i + 1) (j + 1 + 1) = (T ++ [⟨nmG 116 (j + 1), C, [[.sl [[.int .i64 (1 + nextV L (a3 + 1) k)]]]], G, [(exprG L (C.map Col.t) 3 2 (a3 + 3)).1]⟩], (exprG L (C.map Col.t) 3 2 (a3 + 3)).2) := by
                rw [hst2]; simp [endG, u0, c0]
              have hexp := (t_expr L (C.map Col.t) (by simp [hcl]; omega) 3 (by omega) 2 (a3 + 3) (by simp [gb]; omega)).2
              simp [tapB, c0]
              (repeat' (first | contradiction | exact .of (by kernel_rfl) | refine And.intro ?_ ?_ | intro _ | (refine agrd_cases (fun h => ?_) (fun h => ?_) <;> (have h' := h; (try simp at h'); first | done | simp [h, h', c0] | simp [c0]))))
              refine acallT_plain (r_types ⟨nmG 116 (j + 1), C, [[.sl [[.int .i64 (1 + nextV L (a3 + 1) k)]]]], G, []⟩ (by simp [hcl]; omega)) (by simp [Tb.a, Tb.c, hcl, hfl, hct, hgt]) ?_
              simp [tapB, hcl, hfl, hct, hgt]
              (repeat' (first | contradiction | exact .of (by kernel_rfl) | refine And.intro ?_ ?_ | intro _ | (refine agrd_cases (fun h => ?_) (fun h => ?_) <;> (have h' := h; (try simp at h'); first | done | simp [h, h'] | simp))))
              refine acallT_hand [1000000] hexp (by simp) (by simp) (by simp) (by simp [tapB]; try omega) (by simp) ?_
              simp [tapB, Ex.a, Ex.ctake, Ex.clen, Ex.ctake', take6, hcl, hfl, hct, hgt, hTl, szOk (j + 1 + 1) 136 (by omega) (by decide), leBig5 j (by omega)]
              (repeat' (first | contradiction | exact .of (by kernel_rfl) | refine And.intro ?_ ?_ | intro _ | (refine agrd_cases (fun h => ?_) (fun h => ?_) <;> (have h' := h; (try simp at h'); first | done | simp [h, h'] | simp))))
              refine ⟨j + 2, by omega, ?_, ?_⟩
              · refine sub_mk [(0, _), (2, _), (3, _), (4, _), (5, _)] [(1000000, 1000000, _), (2, 2, _), (3, 3, _), (901, 114, _)] ⟨by simp, by simp, ?_, base1⟩ ?_
                · simp [renOf, Blk.live, tapB, hE, Tb.c, hTl]
                  try omega
                · simp [renOf]
                  try rw [wrap_in (by omega) (by omega)]
              · simp; omega
            · have hE : tabsG L (i + 1) (j + 1 + 1) = (T ++ [⟨nmG 116 (j + 1), C, [[.sl [[.int .i64 (1 + nextV L (a3 + 1) k)]]]], G, []⟩], (a3 + 3)) := by
                rw [hst2]; simp [endG, u0, c0]
              simp [tapB, c0, hcl, hfl, hct, hgt, hTl, szOk (j + 1 + 1) 136 (by omega) (by decide), leBig5 j (by omega)]
              (repeat' (first | contradiction | exact .of (by kernel_rfl) | refine And.intro ?_ ?_ | intro _ | (refine agrd_cases (fun h => ?_) (fun h => ?_) <;> (have h' := h; (try simp at h'); first | done | simp [h, h', c0] | simp [c0]))))
              refine ⟨j + 2, by omega, ?_, ?_⟩
              · refine sub_mk [(0, _), (2, _), (3, _), (4, _), (5, _)] [(1000000, 1000000, _), (2, 2, _), (3, 3, _), (901, 114, _)] ⟨by simp, by simp, ?_, base1⟩ ?_
                · simp [renOf, Blk.live, tapB, hE, Tb.c, hTl]
                  try omega
                · simp [renOf]
                  try rw [wrap_in (by omega) (by omega)]
              · simp; omega
          · simp [tapB, u0]
            (repeat' (first | contradiction | exact .of (by kernel_rfl) | refine And.intro ?_ ?_ | intro _ | (refine agrd_cases (fun h => ?_) (fun h => ?_) <;> (have h' := h; (try simp at h'); first | done | simp [h, h', u0] | simp [u0]))))
            have q2 := nextV_in L (a3 + 1) (n := 4) (by omega)
            refine acallT_hand [1000000] (t_next1 L (a3 + 1) (by omega) 4 (by omega) (by omega)) (by simp) (by simp) (by simp) (by simp [tapB]; try omega) (by simp) ?_
            by_cases c0 : nextV L (a3 + 1) 4 = 0
            · have hE : tabsG L (i + 1) (j + 1 + 1) = (T ++ [⟨nmG 116 (j + 1), C, [], G, [(exprG L (C.map Col.t) 3 2 (a3 + 2)).1]⟩], (exprG L (C.map Col.t) 3 2 (a3 + 2)).2) := by
                rw [hst2]; simp [endG, u0, c0]
              have hexp := (t_expr L (C.map Col.t) (by simp [hcl]; omega) 3 (by omega) 2 (a3 + 2) (by simp [gb]; omega)).2
              simp [tapB, c0]
              (repeat' (first | contradiction | exact .of (by kernel_rfl) | refine And.intro ?_ ?_ | intro _ | (refine agrd_cases (fun h => ?_) (fun h => ?_) <;> (have h' := h; (try simp at h'); first | done | simp [h, h', c0] | simp [c0]))))
              refine acallT_plain (r_types ⟨nmG 116 (j + 1), C, [], G, []⟩ (by simp [hcl]; omega)) (by simp [Tb.a, Tb.c, hcl, hfl, hct, hgt]) ?_
              simp [tapB, hcl, hfl, hct, hgt]
              (repeat' (first | contradiction | exact .of (by kernel_rfl) | refine And.intro ?_ ?_ | intro _ | (refine agrd_cases (fun h => ?_) (fun h => ?_) <;> (have h' := h; (try simp at h'); first | done | simp [h, h'] | simp))))
              refine acallT_hand [1000000] hexp (by simp) (by simp) (by simp) (by simp [tapB]; try omega) (by simp) ?_
              simp [tapB, Ex.a, Ex.ctake, Ex.clen, Ex.ctake', take6, hcl, hfl, hct, hgt, hTl, szOk (j + 1 + 1) 136 (by omega) (by decide), leBig5 j (by omega)]
              (repeat' (first | contradiction | exact .of (by kernel_rfl) | refine And.intro ?_ ?_ | intro _ | (refine agrd_cases (fun h => ?_) (fun h => ?_) <;> (have h' := h; (try simp at h'); first | done | simp [h, h'] | simp))))
              refine ⟨j + 2, by omega, ?_, ?_⟩
              · refine sub_mk [(0, _), (2, _), (3, _), (4, _), (5, _)] [(1000000, 1000000, _), (2, 2, _), (3, 3, _), (901, 114, _)] ⟨by simp, by simp, ?_, base1⟩ ?_
                · simp [renOf, Blk.live, tapB, hE, Tb.c, hTl]
                  try omega
                · simp [renOf]
                  try rw [wrap_in (by omega) (by omega)]
              · simp; omega
            · have hE : tabsG L (i + 1) (j + 1 + 1) = (T ++ [⟨nmG 116 (j + 1), C, [], G, []⟩], (a3 + 2)) := by
                rw [hst2]; simp [endG, u0, c0]
              simp [tapB, c0, hcl, hfl, hct, hgt, hTl, szOk (j + 1 + 1) 136 (by omega) (by decide), leBig5 j (by omega)]
              (repeat' (first | contradiction | exact .of (by kernel_rfl) | refine And.intro ?_ ?_ | intro _ | (refine agrd_cases (fun h => ?_) (fun h => ?_) <;> (have h' := h; (try simp at h'); first | done | simp [h, h', c0] | simp [c0]))))
              refine ⟨j + 2, by omega, ?_, ?_⟩
              · refine sub_mk [(0, _), (2, _), (3, _), (4, _), (5, _)] [(1000000, 1000000, _), (2, 2, _), (3, 3, _), (901, 114, _)] ⟨by simp, by simp, ?_, base1⟩ ?_
                · simp [renOf, Blk.live, tapB, hE, Tb.c, hTl]
                  try omega
                · simp [renOf]
                  try rw [wrap_in (by omega) (by omega)]
              · simp; omega
        have h1 : 0 < nextV L (a + 1 + 2 * k + 3) 3 := by omega
        have n4 := nextV_in L (a + 1 + 2 * k + 3 + 1) (n := 4) (by omega)
        have n5 := nextV_in L (a + 1 + 2 * k + 3 + 2) (n := (j : Int) + 1) (by omega)
        have hfc : (fcolG L (a + 1 + 2 * k) 1).c = [.str (nmG 102 1), .int .i64 1, .bool (nextV L (a + 1 + 2 * k + 3 + 1) 4 == 0)] := by simp [fcolG, Col.c]
        have hfk : fkG L (a + 1 + 2 * k) (j + 1) (k + 1) 1 = [.sl [[.int .i64 ((k : Int) + 2)]], .str (nmG 116 (nextV L (a + 1 + 2 * k + 3 + 2) ((j : Int) + 1)).toNat)] := by simp [fkG]; try omega
        have hwk : IntKind.i64.wrap ((k : Int) + 3 - 1) = (k : Int) + 2 := by rw [wrap_in (by omega) (by omega)]; omega
        simp [tapB, h1]
        (repeat' (first | contradiction | exact .of (by kernel_rfl) | refine And.intro ?_ ?_ | intro _ | (refine agrd_cases (fun h => ?_) (fun h => ?_) <;> (have h' := h; (try simp at h'); first | done | simp [h, h', h1] | simp [h1]))))
        refine acallT_plain (t_nm 102 1 1 (by simp) (by omega)) (by simp) ?_
        simp [hclz]
        (repeat' (first | contradiction | exact .of (by kernel_rfl) | refine And.intro ?_ ?_ | intro _ | (refine agrd_cases (fun h => ?_) (fun h => ?_) <;> (have h' := h; (try simp at h'); first | done | simp [h, h'] | simp))))
        refine acallT_hand [1000000] (t_next1 L (a + 1 + 2 * k + 3 + 1) (by omega) 4 (by omega) (by omega)) (by simp) (by simp) (by simp) (by simp [tapB]; try omega) (by simp) ?_
        simp [tapB, hclz, szOk (k + 2 + 1) 32 (by omega) (by decide), leBig5 (k + 1) (by omega), leBig k (by omega), leBig5 k (by omega), leBig4 k (by omega), hwk]
        (repeat' (first | contradiction | exact .of (by kernel_rfl) | refine And.intro ?_ ?_ | intro _ | (refine agrd_cases (fun h => ?_) (fun h => ?_) <;> (have h' := h; (try simp at h'); first | done | simp [h, h'] | simp))))
        refine acallT_hand [1000000] (t_next1 L (a + 1 + 2 * k + 3 + 2) (by omega) ((j : Int) + 1) (by omega) (by omega)) (by simp) (by simp) (by simp) (by simp [tapB]; try omega) (by simp) ?_
        simp [tapB, hclz, hflz]
        (repeat' (first | contradiction | exact .of (by kernel_rfl) | refine And.intro ?_ ?_ | intro _ | (refine agrd_cases (fun h => ?_) (fun h => ?_) <;> (have h' := h; (try simp at h'); first | done | simp [h, h'] | simp))))
        refine acallT_plain (t_nm 116 (nextV L (a + 1 + 2 * k + 3 + 2) ((j : Int) + 1)).toNat (nextV L (a + 1 + 2 * k + 3 + 2) ((j : Int) + 1)) (by omega) (by omega)) (by simp) ?_
        simp [hclz, hflz]
        (repeat' (first | contradiction | exact .of (by kernel_rfl) | refine And.intro ?_ ?_ | intro _ | (refine agrd_cases (fun h => ?_) (fun h => ?_) <;> (have h' := h; (try simp at h'); first | done | simp [h, h'] | simp))))
        refine ⟨2, ⟨by omega, by intro _; exact hz1 (by omega), by intro _; exact h0⟩, ?_, ?_⟩
        · refine sub_mk _ [(1000000, 1000000, _), (2, 2, _), (3, 3, _), (901, 901, _), (6, 6, _), (900, 68, _), (902, 902, _), (903, 83, _)] ⟨by simp, by simp, ?_, base1⟩ ?_
          · simp [renOf, Blk.live, tapB, hcsz, hfsz, hfc, hfk, hclz, hflz]
            try omega
            try exact ⟨by omega, wrap_in (by omega) (by omega)⟩
          · simp [renOf]
            try rw [wrap_in (by omega) (by omega)]
        · simp
      · have hz1 := hz1 (by omega)
        have hz2 := hz2 (by omega)
        simp [tapB]
        (repeat' (first | contradiction | exact .of (by kernel_rfl) | refine And.intro ?_ ?_ | intro _ | (refine agrd_cases (fun h => ?_) (fun h => ?_) <;> (have h' := h; (try simp at h'); first | done | simp [h, h'] | simp))))
        have hst2 : tabsG L (i + 1) (j + 1 + 1) = (T ++ [(endG L (nmG 116 (j + 1)) (colsF L (a + 1) k (a + 1 + 2 * k) 2) (fksF L (a + 1 + 2 * k) (j + 1) (k + 1) 2) k (a + 1 + 2 * k + 6)).1], (endG L (nmG 116 (j + 1)) (colsF L (a + 1) k (a + 1 + 2 * k) 2) (fksF L (a + 1 + 2 * k) (j + 1) (k + 1) 2) k (a + 1 + 2 * k + 6)).2) := by
          rw [hst]; simp [fkN, fkE, hz1, hz2]
        have hcl := hclz
        have hfl := hflz
        obtain ⟨C, hC⟩ : ∃ C, C = colsF L (a + 1) k (a + 1 + 2 * k) 2 := ⟨_, rfl⟩
        obtain ⟨G, hG⟩ : ∃ G, G = fksF L (a + 1 + 2 * k) (j + 1) (k + 1) 2 := ⟨_, rfl⟩
        rw [← hC] at hst2 hcl
        try rw [← hC]
        rw [← hG] at hst2 hfl
        try rw [← hG]
        clear hC
        have hct : List.take (k + 1 + 2) (C.map Col.c) = C.map Col.c := List.take_of_length_le (by simp [hcl])
        have hgt : List.take 2 G = G := List.take_of_length_le (by omega)
        obtain ⟨a3, ha3⟩ : ∃ a3, a3 = a + 1 + 2 * k + 6 := ⟨_, rfl⟩
        rw [← ha3] at hst2
        rw [show ((a : Int) + 1 + 2 * k + 6) = (a3 : Int) from by omega]
        have q0 := nextV_in L a3 (n := 4) (by omega)
        refine acallT_hand [1000000] (t_next1 L a3 (by omega) 4 (by omega) (by omega)) (by simp) (by simp) (by simp) (by simp [tapB]; try omega) (by simp) ?_
        by_cases u0 : nextV L a3 4 = 0
        · have q1 := nextV_in L (a3 + 1) (n := (k : Int)) (by omega)
          have hwu := wrap_in (n := 1 + nextV L (a3 + 1) k) (by omega) (by omega)
          simp [tapB, u0]
          (repeat' (first | contradiction | exact .of (by kernel_rfl) | refine And.intro ?_ ?_ | intro _ | (refine agrd_cases (fun h => ?_) (fun h => ?_) <;> (have h' := h; (try simp at h'); first | done | simp [h, h', u0] | simp [u0]))))
          refine acallT_hand [1000000] (t_next1 L (a3 + 1) (by omega) k (by omega) (by omega)) (by simp) (by simp) (by simp) (by simp [tapB]; try omega) (by simp) ?_
          simp [tapB, hwu]
          (repeat' (first | contradiction | exact .of (by kernel_rfl) | refine And.intro ?_ ?_ | intro _ | (refine agrd_cases (fun h => ?_) (fun h => ?_) <;> (have h' := h; (try simp at h'); first | done | simp [h, h'] | simp))))
          have q2 := nextV_in L (a3 + 2) (n := 4) (by omega)
          refine acallT_hand [1000000] (t_next1 L (a3 + 2) (by omega) 4 (by omega) (by omega)) (by simp) (by simp) (by simp) (by simp [tapB]; try omega) (by simp) ?_
          by_cases c0 : nextV L (a3 + 2) 4 = 0
          · have hE : tabsG L (i + 1) (j + 1 + 1) = (T ++ [⟨nmG 116 (j + 1), C, [[.sl [[.int .i64 (1 + nextV L (a3 + 1) k)]]]], G, [(exprG L (C.map Col.t) 3 2 (a3 + 3)).1]⟩], (exprG L (C.map Col.t) 3 2 (a3 + 3)).2) := by
              rw [hst2]; simp [endG, u0, c0]
            have hexp := (t_expr L (C.map Col.t) (by simp [hcl]; omega) 3 (by omega) 2 (a3 + 3) (by simp [gb]; omega)).2
            simp [tapB, c0]
            (repeat' (first | contradiction | exact .of (by kernel_rfl) | refine And.intro ?_ ?_ | intro _ | (refine agrd_cases (fun h => ?_) (fun h => ?_) <;> (have h' := h; (try simp at h'); first | done | simp [h, h', c0] | simp [c0]))))
            refine acallT_plain (r_types ⟨nmG 116 (j + 1), C, [[.sl [[.int .i64 (1 + nextV L (a3 + 1) k)]]]], G, []⟩ (by simp [hcl]; omega)) (by simp [Tb.a, Tb.c, hcl, hfl, hct, hgt]) ?_
            simp [tapB, hcl, hfl, hct, hgt]
            (repeat' (first | contradiction | exact .of (by kernel_rfl) | refine And.intro ?_ ?_ | intro _ | (refine agrd_cases (fun h => ?_) (fun h => ?_) <;> (have h' := h; (try simp at h'); first | done | simp [h, h'] | simp))))
            refine acallT_hand [1000000] hexp (by simp) (by simp) (by simp) (by simp [tapB]; try omega) (by simp) ?_
            simp [tapB, Ex.a, Ex.ctake, Ex.clen, Ex.ctake', take6, hcl, hfl, hct, hgt, hTl, szOk (j + 1 + 1) 136 (by omega) (by decide), leBig5 j (by omega)]
            (repeat' (first | contradiction | exact .of (by kernel_rfl) | refine And.intro ?_ ?_ | intro _ | (refine agrd_cases (fun h => ?_) (fun h => ?_) <;> (have h' := h; (try simp at h'); first | done | simp [h, h'] | simp))))
            refine ⟨j + 2, by omega, ?_, ?_⟩
            · refine sub_mk [(0, _), (2, _), (3, _), (4, _), (5, _)] [(1000000, 1000000, _), (2, 2, _), (3, 3, _), (901, 114, _)] ⟨by simp, by simp, ?_, base1⟩ ?_
              · simp [renOf, Blk.live, tapB, hE, Tb.c, hTl]
                try omega
              · simp [renOf]
                try rw [wrap_in (by omega) (by omega)]
            · simp; omega
          · have hE : tabsG L (i + 1) (j + 1 + 1) = (T ++ [⟨nmG 116 (j + 1), C, [[.sl [[.int .i64 (1 + nextV L (a3 + 1) k)]]]], G, []⟩], (a3 + 3)) := by
              rw [hst2]; simp [endG, u0, c0]
            simp [tapB, c0, hcl, hfl, hct, hgt, hTl, szOk (j + 1 + 1) 136 (by omega) (by decide), leBig5 j (by omega)]
            (repeat' (first | contradiction | exact .of (by kernel_rfl) | refine And.intro ?_ ?_ | intro _ | (refine agrd_cases (fun h => ?_) (fun h => ?_) <;> (have h' := h; (try simp at h'); first | done | simp [h, h', c0] | simp [c0]))))
            refine ⟨j + 2, by omega, ?_, ?_⟩
            · refine sub_mk [(0, _), (2, _), (3, _), (4, _), (5, _)] [(1000000, 1000000, _), (2, 2, _), (3, 3, _), (901, 114, _)] ⟨by simp, by simp, ?_, base1⟩ ?_
              · simp [renOf, Blk.live, tapB, hE, Tb.c, hTl]
                try omega
              · simp [renOf]
                try rw [wrap_in (by omega) (by omega)]
            · simp; omega
        · simp [tapB, u0]
          (repeat' (first | contradiction | exact .of (by kernel_rfl) | refine And.intro ?_ ?_ | intro _ | (refine agrd_cases (fun h => ?_) (fun h => ?_) <;> (have h' := h; (try simp at h'); first | done | simp [h, h', u0] | simp [u0]))))
          have q2 := nextV_in L (a3 + 1) (n := 4) (by omega)
          refine acallT_hand [1000000] (t_next1 L (a3 + 1) (by omega) 4 (by omega) (by omega)) (by simp) (by simp) (by simp) (by simp [tapB]; try omega) (by simp) ?_
          by_cases c0 : nextV L (a3 + 1) 4 = 0
          · have hE : tabsG L (i + 1) (j + 1 + 1) = (T ++ [⟨nmG 116 (j + 1), C, [], G, [(exprG L (C.map Col.t) 3 2 (a3 + 2)).1]⟩], (exprG L (C.map Col.t) 3 2 (a3 + 2)).2) := by
              rw [hst2]; simp [endG, u0, c0]
            have hexp := (t_expr L (C.map Col.t) (by simp [hcl]; omega) 3 (by omega) 2 (a3 + 2) (by simp [gb]; omega)).2
            simp [tapB, c0]
            (repeat' (first | contradiction | exact .of (by kernel_rfl) | refine And.intro ?_ ?_ | intro _ | (refine agrd_cases (fun h => ?_) (fun h => ?_) <;> (have h' := h; (try simp at h'); first | done | simp [h, h', c0] | simp [c0]))))
            refine acallT_plain (r_types ⟨nmG 116 (j + 1), C, [], G, []⟩ (by simp [hcl]; omega)) (by simp [Tb.a, Tb.c, hcl, hfl, hct, hgt]) ?_
            simp [tapB, hcl, hfl, hct, hgt]
            (repeat' (first | contradiction | exact .of (by kernel_rfl) | refine And.intro ?_ ?_ | intro _ | (refine agrd_cases (fun h => ?_) (fun h => ?_) <;> (have h' := h; (try simp at h'); first | done | simp [h, h'] | simp))))
            refine acallT_hand [1000000] hexp (by simp) (by simp) (by simp) (by simp [tapB]; try omega) (by simp) ?_
            simp [tapB, Ex.a, Ex.ctake, Ex.clen, Ex.ctake', take6, hcl, hfl, hct, hgt, hTl, szOk (j + 1 + 1) 136 (by omega) (by decide), leBig5 j (by omega)]
            (repeat' (first | contradiction | exact .of (by kernel_rfl) | refine And.intro ?_ ?_ | intro _ | (refine agrd_cases (fun h => ?_) (fun h => ?_) <;> (have h' := h; (try simp at h'); first | done | simp [h, h'] | simp))))
            refine ⟨j + 2, by omega, ?_, ?_⟩
            · refine sub_mk [(0, _), (2, _), (3, _), (4, _), (5, _)] [(1000000, 1000000, _), (2, 2, _), (3, 3, _), (901, 114, _)] ⟨by simp, by simp, ?_, base1⟩ ?_
              · simp [renOf, Blk.live, tapB, hE, Tb.c, hTl]
                try omega
              · simp [renOf]
                try rw [wrap_in (by omega) (by omega)]
            · simp; omega
          · have hE : tabsG L (i + 1) (j + 1 + 1) = (T ++ [⟨nmG 116 (j + 1), C, [], G, []⟩], (a3 + 2)) := by
              rw [hst2]; simp [endG, u0, c0]
            simp [tapB, c0, hcl, hfl, hct, hgt, hTl, szOk (j + 1 + 1) 136 (by omega) (by decide), leBig5 j (by omega)]
            (repeat' (first | contradiction | exact .of (by kernel_rfl) | refine And.intro ?_ ?_ | intro _ | (refine agrd_cases (fun h => ?_) (fun h => ?_) <;> (have h' := h; (try simp at h'); first | done | simp [h, h', c0] | simp [c0]))))
            refine ⟨j + 2, by omega, ?_, ?_⟩
            · refine sub_mk [(0, _), (2, _), (3, _), (4, _), (5, _)] [(1000000, 1000000, _), (2, 2, _), (3, 3, _), (901, 114, _)] ⟨by simp, by simp, ?_, base1⟩ ?_
              · simp [renOf, Blk.live, tapB, hE, Tb.c, hTl]
                try omega
              · simp [renOf]
                try rw [wrap_in (by omega) (by omega)]
            · simp; omega
  · have hjN : j = N := by omega
    subst hjN
    cases j with
    | zero => omega
    | succ j =>
      have hTl := tabsG_len L (i + 1) (j + 1)
      simp [scF, tapB, hTl]
      (repeat' (first | contradiction | exact .of (by kernel_rfl) | refine And.intro ?_ ?_ | intro _ | (refine agrd_cases (fun h => ?_) (fun h => ?_) <;> (have h' := h; (try simp at h'); first | done | simp [h, h'] | simp))))
      all_goals exact List.take_of_length_le (by simp [hTl])
end Go.Proofs.Tryd
