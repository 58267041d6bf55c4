/- The library's sort of few values, with the order handed in. -/
import Derived.Test.YtlimkhfjidcelaaGreatDoorBou
set_option linter.all false
namespace Go.Proofs.Tryz
open Go.Ab
set_option maxRecDepth 100000
set_option maxHeartbeats 2000000

def insX (S R : List V) (v : V) (j : Nat) : List V := S.take j ++ v :: (S.drop j ++ R)
theorem insX_at {S R : List V} {v : V} {j : Nat} (h : j ≤ S.length) : (insX S R v j)[j]? = some v := by
  unfold insX
  rw [List.getElem?_append_right (by simp; omega), List.length_take, Nat.min_eq_left h, Nat.sub_self]
  rfl
theorem insX_before {S R : List V} {v : V} {p : Nat} (h : p < S.length) : (insX S R v (p + 1))[p]? = some S[p] := by
  unfold insX
  rw [List.getElem?_append_left (by simp; omega), List.getElem?_take, if_pos (by omega), List.getElem?_eq_getElem h]
theorem insX_len (S R : List V) (v : V) {j : Nat} (h : j ≤ S.length) : (insX S R v j).length = S.length + 1 + R.length := by
  unfold insX; simp; omega
theorem insX_swap {S R : List V} {v : V} {p : Nat} (h : p < S.length) : ((insX S R v (p + 1)).set (p + 1) S[p]).set p v = insX S R v p := by
  apply List.ext_getElem?
  intro k
  unfold insX
  by_cases c1 : k = p
  · subst c1
    rw [List.getElem?_set_self (by simp; omega)]
    exact (insX_at (R := R) (v := v) (Nat.le_of_lt h)).symm
  · rw [List.getElem?_set_ne (fun e => c1 e.symm)]
    by_cases c2 : k = p + 1
    · subst c2
      rw [List.getElem?_set_self (by simp; omega), List.getElem?_append_right (by simp; omega)]
      simp
      rw [Nat.min_eq_left (by omega), show p + 1 - p = 1 from by omega, List.getElem?_cons_succ, List.getElem?_append_left (by simp; omega), List.getElem?_drop, List.getElem?_eq_getElem (by omega)]
      rfl
    · rw [List.getElem?_set_ne (fun e => c2 e.symm)]
      rcases Nat.lt_or_ge k p with c | c
      · rw [List.getElem?_append_left (by simp; omega), List.getElem?_append_left (by simp; omega), List.getElem?_take, List.getElem?_take, if_pos (by omega), if_pos c]
      · rw [List.getElem?_append_right (by simp; omega), List.getElem?_append_right (by simp; omega)]
        simp only [List.length_take]
        rw [Nat.min_eq_left (by omega), Nat.min_eq_left (by omega), show k - (p + 1) = (k - p - 2) + 1 from by omega, show k - p = (k - p - 2) + 1 + 1 from by omega, List.getElem?_cons_succ, List.getElem?_cons_succ]
        rw [List.drop_eq_getElem_cons h, List.cons_append, List.getElem?_cons_succ]
        congr 1
theorem isort_take {l : List V} {i : Nat} (h : i < l.length) : isort (l.take (i + 1)) = insS (isort (l.take i)) l[i] := by
  unfold isort
  rw [take_snoc h, List.foldl_append]
  rfl
theorem insS_len (acc : List V) (v : V) : (insS acc v).length = acc.length + 1 := by
  have := posS_le acc v acc.length
  unfold insS; simp; omega
theorem isort_len (l : List V) : (isort l).length = l.length := by
  have : ∀ (m acc : List V), (m.foldl insS acc).length = acc.length + m.length := by
    intro m
    induction m with
    | nil => intro acc; simp
    | cons v m ih => intro acc; rw [List.foldl_cons, ih, insS_len, List.length_cons]; omega
  have h := this l []
  unfold isort; simpa using h
def isF (n : Nat) (i : Nat) (x : Nat × List V) : St :=
  { s := mkS [(0, .ref 1000000 0 n 3), (1, .d (.int .i64 0)), (2, .d (.int .i64 n)), (3, .clo 79 []), (8, .d (.int .i64 i)), (9, .d (.int .i64 x.1))], b := mkB [(1000000, 1000000, .arr 54 3 (x.2.map V.c) false)] }
theorem ins_sort (l : List V) (hl : l.length ≤ 1000) : Cf En 139 [.ref 1000000 0 l.length 3, .d (.int .i64 0), .d (.int .i64 l.length), .clo 79 []] [.arr 54 3 (l.map V.c) false] (.tup []) [.arr 54 3 ((isort l).map V.c) false] := by
  refine cf_intro mix (fn := Tryz.f139) (by kernel_rfl) rfl (by kernel_rfl) (by decide) (by simp) ?_
  simp [show IntKind.i64.wrap 1 = 1 from by decide]
  (repeat' (first | contradiction | exact .of (by kernel_rfl) | refine And.intro ?_ ?_ | intro _ | (refine agrd_cases (fun h => ?_) (fun h => ?_) <;> (have h' := h; (try simp at h'); first | done | simp [h, h'] | simp))))
  refine aloopT mix (by decide) (fun i : Nat => { s := mkS [(0, .ref 1000000 0 l.length 3), (1, .d (.int .i64 0)), (2, .d (.int .i64 l.length)), (3, .clo 79 []), (8, .d (.int .i64 i))], b := mkB [(1000000, 1000000, .arr 54 3 ((isort (l.take i) ++ l.drop i).map V.c) false)] }) (fun i => 1 ≤ i) (fun i => l.length - i) 1 (by simp) (sub_mk _ [(1000000, 1000000, _)] ⟨by simp, by simp, ?_, base1⟩ (by simp [renOf])) ?_
  · have e : isort (l.take 1) ++ l.drop 1 = l := by
      cases l with
      | nil => rfl
      | cons v r => simp [isort, insS, posS]
    have e' : List.map V.c (isort (l.take 1)) ++ (List.map V.c l).tail = List.map V.c l := by rw [← List.drop_one, ← List.map_drop, ← List.map_append, e]
    simp [renOf, Blk.live, e']
  intro i hi1
  by_cases hlt : i < l.length
  · have ht := isort_take hlt
    obtain ⟨v, hv⟩ : ∃ v, v = l[i] := ⟨_, rfl⟩
    rw [← hv] at ht
    have hd : l.drop i = v :: l.drop (i + 1) := by rw [List.drop_eq_getElem_cons hlt, hv]
    have hSl : (isort (l.take i)).length = i := by rw [isort_len]; simp; omega
    have hw := wrap_in (n := (i : Int) + 1) (by omega) (by omega)
    rw [hd]
    have hlR : (l.drop (i + 1)).length = l.length - (i + 1) := by simp
    generalize isort (l.take i) = S at *
    generalize hR : l.drop (i + 1) = R at *
    have hX0 : S ++ v :: R = insX S R v i := by unfold insX; rw [← hSl, List.take_length, List.drop_length, List.nil_append]
    simp [hlt]
    (repeat' (first | contradiction | exact .of (by kernel_rfl) | refine And.intro ?_ ?_ | intro _ | (refine agrd_cases (fun h => ?_) (fun h => ?_) <;> (have h' := h; (try simp at h'); first | done | simp [h, h'] | simp))))
    refine aloopT mix (by decide) (isF l.length i) (fun x => x.1 ≤ i ∧ x.2 = insX S R v x.1 ∧ posS S v x.1 = posS S v i) (fun x => x.1) (i, S ++ v :: R) ⟨by simp, hX0, rfl⟩ (sub_mk _ [(1000000, 1000000, _)] ⟨by simp, by simp, by simp [renOf, Blk.live], base1⟩ (by simp [renOf])) ?_
    rintro ⟨j, X⟩ ⟨hj, hX, hp⟩
    simp only at hj hX hp
    have hXl : X.length = l.length := by rw [hX, insX_len S R v (by omega)]; omega
    have hfin : posS S v i = j → insX S R v j = insS S v ++ R := fun e => by
      unfold insS; rw [hSl, e]; unfold insX; simp
    cases j with
    | zero =>
      have hX2 : X = insS S v ++ R := by rw [hX]; exact hfin (by rw [← hp]; rfl)
      simp [isF]
      (repeat' (first | contradiction | exact .of (by kernel_rfl) | refine And.intro ?_ ?_ | intro _ | (refine agrd_cases (fun h => ?_) (fun h => ?_) <;> (have h' := h; (try simp at h'); first | done | simp [h, h'] | simp))))
      refine ⟨i + 1, by omega, ?_, by simp; omega⟩
      exact sub_mk _ [(1000000, 1000000, _)] ⟨by simp, by simp, by simp [renOf, Blk.live, hX2, ht, hR], base1⟩ (by simp [renOf, hw])
    | succ p =>
      have hps : p < S.length := by omega
      obtain ⟨u, hu⟩ : ∃ u, u = S[p] := ⟨_, rfl⟩
      have g1 : X[p + 1]? = some v := by rw [hX]; exact insX_at (by omega)
      have g2 : X[p]? = some u := by rw [hX, hu]; exact insX_before hps
      have hlX : p + 1 < X.length := by omega
      have hlX0 : p < X.length := by omega
      have hln : p + 1 < l.length := by omega
      have hln0 : p < l.length := by omega
      have q1 : ∀ h, X[p + 1]'h = v := fun h => by rw [List.getElem?_eq_getElem h] at g1; exact Option.some.inj g1
      have q2 : ∀ h, X[p]'h = u := fun h => by rw [List.getElem?_eq_getElem h] at g2; exact Option.some.inj g2
      have hsw : (X.set (p + 1) u).set p v = insX S R v p := by rw [hX, hu]; exact insX_swap hps
      have hpos : posS S v (p + 1) = if v.cmp u < 0 then posS S v p else p + 1 := by rw [posS, List.getElem?_eq_getElem hps, hu]; rfl
      rw [hpos] at hp
      have h0 : (0 : Int) < (p : Int) + 1 := by omega
      have h1 : (0 : Int) ≤ (p : Int) + 1 := by omega
      have hwp : IntKind.i64.wrap (p : Int) = p := wrap_in (by omega) (by omega)
      simp [isF, h0, h1, hwp, hln, hln0, hlX, hlX0, q1, q2, V.c]
      (repeat' (first | contradiction | exact .of (by kernel_rfl) | refine And.intro ?_ ?_ | intro _ | (refine agrd_cases (fun h => ?_) (fun h => ?_) <;> (have h' := h; (try simp at h'); first | done | simp [h, h'] | simp))))
      refine acallT_plain (v_compare v u) (by simp [V.a]) ?_
      by_cases hc : v.cmp u < 0
      · rw [if_pos hc] at hp
        simp [hc, h0, h1, hwp, hln, hln0, hlX, hlX0, q1, q2, V.c]
        (repeat' (first | contradiction | exact .of (by kernel_rfl) | refine And.intro ?_ ?_ | intro _ | (refine agrd_cases (fun h => ?_) (fun h => ?_) <;> (have h' := h; (try simp at h'); first | done | simp [h, h', hc] | simp [hc]))))
        refine ⟨(p, (X.set (p + 1) u).set p v), ⟨by simp only; omega, hsw, hp⟩, ?_, by simp⟩
        exact sub_mk _ [(1000000, 1000000, _)] ⟨by simp, by simp, by simp [renOf, Blk.live, List.map_set, V.c], base1⟩ (by simp [renOf, hwp])
      · rw [if_neg hc] at hp
        have hX2 : X = insS S v ++ R := by rw [hX]; exact hfin hp.symm
        simp [hc]
        (repeat' (first | contradiction | exact .of (by kernel_rfl) | refine And.intro ?_ ?_ | intro _ | (refine agrd_cases (fun h => ?_) (fun h => ?_) <;> (have h' := h; (try simp at h'); first | done | simp [h, h', hc] | simp [hc]))))
        refine ⟨i + 1, by omega, ?_, by simp; omega⟩
        exact sub_mk _ [(1000000, 1000000, _)] ⟨by simp, by simp, by simp [renOf, Blk.live, hX2, ht, hR], base1⟩ (by simp [renOf, hw])
  · have hlt' : ¬ (i : Int) < l.length := by omega
    have e1 : l.take i = l := List.take_of_length_le (by omega)
    have e2 : l.drop i = [] := List.drop_of_length_le (by omega)
    simp [hlt, e1, e2]
    (repeat' (first | contradiction | exact .of (by kernel_rfl) | refine And.intro ?_ ?_ | intro _ | (refine agrd_cases (fun h => ?_) (fun h => ?_) <;> (have h' := h; (try simp at h'); first | done | simp [h, h'] | simp))))
end Go.Proofs.Tryz
