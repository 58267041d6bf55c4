/- The reference's atoms about a column, and their constants. -/
import Derived.Test.YtlimkhfjidcelaaGreatDoorIns
set_option linter.all false
namespace Go.Proofs.Tryz
open Go.Ab
set_option maxRecDepth 100000
set_option maxHeartbeats 1000000

theorem aboutG_take {c : Int} {l : List At} {i : Nat} (h : i < l.length) : aboutG c (l.take (i + 1)) = if l[i].col = c then aboutG c (l.take i) ++ [l[i]] else aboutG c (l.take i) := by
  unfold aboutG
  rw [take_snoc h, List.filter_append]
  by_cases e : l[i].col = c <;> simp [e]
theorem constsG_snoc (l : List At) (a : At) : constsG (l ++ [a]) = if a.v.k = 0 then constsG l else insD (constsG l) a.v := by
  unfold constsG sortD
  rw [List.filter_append, List.map_append, List.foldl_append]
  by_cases e : a.v.k = 0 <;> simp [e]
theorem insD_len (l : List V) (v : V) : (insD l v).length ≤ l.length + 1 := by
  have := posD_le v l
  unfold insD
  split
  · omega
  · simp; omega
theorem constsG_len (l : List At) : (constsG l).length ≤ l.length := by
  have : ∀ (m acc : List V), (m.foldl insD acc).length ≤ acc.length + m.length := by
    intro m
    induction m with
    | nil => intro acc; simp
    | cons v m ih => intro acc; have := ih (insD acc v); have := insD_len acc v; simp only [List.foldl_cons, List.length_cons]; omega
  have h := this ((l.filter fun a => a.v.k != 0).map At.v) []
  unfold constsG sortD
  have h2 := List.length_filter_le (fun a : At => a.v.k != 0) l
  simp at h ⊢; omega
theorem posD_drop {v : V} {l : List V} {i : Nat} (h : i < l.length) : posD v (l.drop i) = if l[i].cmp v < 0 then posD v (l.drop (i + 1)) + 1 else 0 := by
  rw [List.drop_eq_getElem_cons h, posD]
@[simp] theorem v_clen (v : V) : v.c.length = 3 := rfl
@[simp] theorem v_take (l : List V) (n : Nat) : (∀ x, x ∈ List.take n (l.map V.c) → x.length = 3) = True := eq_true fun x hx => by
  obtain ⟨a, _, rfl⟩ := List.mem_map.1 (List.mem_of_mem_take hx)
  rfl
@[simp] theorem v_drop (l : List V) (n : Nat) : (∀ x, x ∈ List.drop n (l.map V.c) → x.length = 3) = True := eq_true fun x hx => by
  obtain ⟨a, _, rfl⟩ := List.mem_map.1 (List.mem_of_mem_drop hx)
  rfl
theorem r13_about (l : List At) (hl : l.length ≤ 1000) (c : Int) : Cf En 38 [.d (.int .i64 c), .d (.sl (l.map At.c))] [] (.tup [.d (.sl ((aboutG c l).map At.c)), .d (.sl ((constsG (aboutG c l)).map V.c))]) [] := by
  refine cf_intro mix (fn := Tryz.f38) (by kernel_rfl) rfl (by kernel_rfl) (by decide) (by simp) ?_
  simp
  (repeat' (first | contradiction | exact .of (by kernel_rfl) | refine And.intro ?_ ?_ | intro _ | (refine agrd_cases (fun h => ?_) (fun h => ?_) <;> (have h' := h; (try simp at h'); first | done | simp [h, h'] | simp))))
  refine aloopT mix (by decide) (fun i : Nat => { s := mkS [(0, .d (.int .i64 c)), (1, .d (.sl (l.map At.c))), (6, .ref 900 0 (aboutG c (l.take i)).length 5), (7, .d (.sl ((constsG (aboutG c (l.take i))).map V.c))), (8, .d (.int .i64 i))], b := mkB [(900, 900, .arr 58 5 ((aboutG c (l.take i)).map At.c) false)] }) (fun i => i ≤ l.length) (fun i => l.length - i) 0 (by simp)
    (sub_mkn2 6 900 58 5 7 901 54 3 (by simp) (by simp) (by decide) (by decide) (by simp) (by simp) (by decide) (by decide) (by decide) (by decide) _ [(900, 900, _)] ⟨by simp, by simp, by simp [renOf, Blk.live, aboutG, constsG, sortD], by simp⟩ (by simp [renOf, aboutG, constsG, sortD])) ?_
  intro i hi
  by_cases hlt : i < l.length
  · have ht := aboutG_take (c := c) hlt
    have hw := wrap_in (n := (i : Int) + 1) (by omega) (by omega)
    obtain ⟨a, ha⟩ : ∃ a, a = l[i] := ⟨_, rfl⟩
    have hgi : ∀ h, l[i]'h = a := fun _ => ha.symm
    rw [← ha] at ht
    have hAl : (aboutG c (l.take i)).length ≤ 1000 := Nat.le_trans (List.length_filter_le _ _) (by simp; omega)
    have hBl := constsG_len (aboutG c (l.take i))
    have hcs := constsG_snoc (aboutG c (l.take i)) a
    generalize aboutG c (l.take i) = A at *
    generalize hB : constsG A = B at *
    by_cases hc : a.col = c
    · rw [if_pos hc] at ht
      by_cases hk : a.v.k = 0
      · rw [if_pos hk] at hcs
        simp [hlt, hgi, At.c, hc, hk, szs (A.length + 1) (by omega) 48 (by decide), szs A.length (by omega) 48 (by decide)]
        (repeat' (first | contradiction | exact .of (by kernel_rfl) | refine And.intro ?_ ?_ | intro _ | (refine agrd_cases (fun h => ?_) (fun h => ?_) <;> (have h' := h; (try simp at h'); first | done | simp [h, h', hc, hk] | simp [hc, hk]))))
        refine ⟨i + 1, by omega, ?_, by simp; omega⟩
        refine sub_mk _ [(900, 30, _)] ⟨by simp, by simp, by simp [renOf, Blk.live, ht, hcs, At.c, hc, hk], by simp⟩ (by simp [renOf, hw, ht, hcs, V.c])
      · rw [if_neg hk] at hcs
        simp [hlt, hgi, At.c, hc, hk, szs (A.length + 1) (by omega) 48 (by decide), szs A.length (by omega) 48 (by decide)]
        (repeat' (first | contradiction | exact .of (by kernel_rfl) | refine And.intro ?_ ?_ | intro _ | (refine agrd_cases (fun h => ?_) (fun h => ?_) <;> (have h' := h; (try simp at h'); first | done | simp [h, h', hc, hk] | simp [hc, hk]))))
        refine aloopT mix (by decide) (fun j : Nat => { s := mkS [(0, .d (.int .i64 c)), (1, .d (.sl (l.map At.c))), (6, .ref 900 0 (A.length + 1) 5), (7, .d (.sl (B.map V.c))), (8, .d (.int .i64 i)), (9, .d (.int .i64 j))], b := mkB [(900, 900, .arr 58 5 ((A ++ [a]).map At.c) false)] }) (fun j => j ≤ B.length ∧ posD a.v (B.drop j) + j = posD a.v B) (fun j => B.length - j) 0 (by simp)
          (sub_mk _ [(900, 30, _)] ⟨by simp, by simp, by simp [renOf, Blk.live, At.c, hc], by simp⟩ (by simp [renOf])) ?_
        rintro j ⟨hj, hp⟩
        by_cases hjt : j < B.length
        · have hd := posD_drop (v := a.v) hjt
          rw [hd] at hp
          have hwj := wrap_in (n := (j : Int) + 1) (by omega) (by omega)
          obtain ⟨u, hu⟩ : ∃ u, u = B[j] := ⟨_, rfl⟩
          have hgu : ∀ h, B[j]'h = u := fun _ => hu.symm
          rw [← hu] at hp
          simp [hlt, hgi, At.c, hjt, hgu, V.c]
          (repeat' (first | contradiction | exact .of (by kernel_rfl) | refine And.intro ?_ ?_ | intro _ | (refine agrd_cases (fun h => ?_) (fun h => ?_) <;> (have h' := h; (try simp at h'); first | done | simp [h, h'] | simp))))
          refine acallT_plain (r_compare u a.v) (by simp [V.a]) ?_
          by_cases hcm : u.cmp a.v < 0
          · rw [if_pos hcm] at hp
            simp [hcm]
            (repeat' (first | contradiction | exact .of (by kernel_rfl) | refine And.intro ?_ ?_ | intro _ | (refine agrd_cases (fun h => ?_) (fun h => ?_) <;> (have h' := h; (try simp at h'); first | done | simp [h, h', hcm] | simp [hcm]))))
            refine ⟨j + 1, ⟨by omega, by omega⟩, ?_, by simp; omega⟩
            refine sub_mk _ [(900, 900, _)] ⟨by simp, by simp, by simp [renOf, Blk.live, At.c], by simp⟩ (by simp [renOf, hwj])
          · rw [if_neg hcm] at hp
            have hpj : posD a.v B = j := by omega
            have hge : 0 ≤ u.cmp a.v := by omega
            simp [hcm, hge, hlt, hgi, At.c, hjt, hgu, V.c]
            (repeat' (first | contradiction | exact .of (by kernel_rfl) | refine And.intro ?_ ?_ | intro _ | (refine agrd_cases (fun h => ?_) (fun h => ?_) <;> (have h' := h; (try simp at h'); first | done | simp [h, h', hcm] | simp [hcm]))))
            refine acallT_plain (r_same u a.v) (by simp [V.a]) ?_
            by_cases h0 : u.cmp a.v = 0
            · have e := V.cmp_eq h0
              have hins : insD B a.v = B := by unfold insD; rw [hpj, List.getElem?_eq_getElem hjt, hgu, e, if_pos rfl]
              rw [hins] at hcs
              simp [h0]
              (repeat' (first | contradiction | exact .of (by kernel_rfl) | refine And.intro ?_ ?_ | intro _ | (refine agrd_cases (fun h => ?_) (fun h => ?_) <;> (have h' := h; (try simp at h'); first | done | simp [h, h', h0] | simp [h0]))))
              refine ⟨i + 1, by omega, ?_, by simp; omega⟩
              refine sub_mk _ [(900, 900, _)] ⟨by simp, by simp, by simp [renOf, Blk.live, ht, hcs, At.c], by simp⟩ (by simp [renOf, hw, ht, hcs, V.c])
            · have hne : ¬ u = a.v := fun e => h0 (by rw [e]; exact V.cmp_self _)
              have hins : insD B a.v = B.take j ++ a.v :: B.drop j := by unfold insD; rw [hpj, List.getElem?_eq_getElem hjt, hgu, if_neg (by simpa using hne)]
              rw [hins] at hcs
              have hm : min j B.length = j := by omega
              simp [h0, hm, hj, hlt, hgi, At.c, V.c, szs j (by omega) 32 (by decide), szs (j + 1) (by omega) 32 (by decide), szs (j + 1 + (B.length - j)) (by omega) 32 (by decide)]
              (repeat' (first | contradiction | exact .of (by kernel_rfl) | refine And.intro ?_ ?_ | intro _ | (refine agrd_cases (fun h => ?_) (fun h => ?_) <;> (have h' := h; (try simp at h'); first | done | simp [h, h', h0] | simp [h0]))))
              refine ⟨i + 1, by omega, ?_, by simp; omega⟩
              refine sub_mk _ [(900, 900, _)] ⟨by simp, by simp, by simp [renOf, Blk.live, ht, hcs, V.c, At.c], by simp⟩ (by simp [renOf, hw, ht, hcs, hm, V.c]; rw [if_pos (by omega), List.take_of_length_le (by simp; omega)])
        · have hje : j = B.length := by omega
          subst hje
          rw [List.drop_length, posD] at hp
          have hins : insD B a.v = B ++ [a.v] := by unfold insD; rw [← hp]; simp
          rw [hins] at hcs
          simp [hlt, hgi, At.c, V.c, szs B.length (by omega) 32 (by decide), szs (B.length + 1) (by omega) 32 (by decide)]
          (repeat' (first | contradiction | exact .of (by kernel_rfl) | refine And.intro ?_ ?_ | intro _ | (refine agrd_cases (fun h => ?_) (fun h => ?_) <;> (have h' := h; (try simp at h'); first | done | simp [h, h'] | simp))))
          refine ⟨i + 1, by omega, ?_, by simp; omega⟩
          refine sub_mk _ [(900, 900, _)] ⟨by simp, by simp, by simp [renOf, Blk.live, ht, hcs, V.c, At.c], by simp⟩ (by simp [renOf, hw, ht, hcs, V.c]; rw [List.take_of_length_le (by simp)])
    · rw [if_neg hc] at ht
      simp [hlt, hgi, At.c, hc]
      (repeat' (first | contradiction | exact .of (by kernel_rfl) | refine And.intro ?_ ?_ | intro _ | (refine agrd_cases (fun h => ?_) (fun h => ?_) <;> (have h' := h; (try simp at h'); first | done | simp [h, h', hc] | simp [hc]))))
      refine ⟨i + 1, by omega, ?_, by simp; omega⟩
      refine sub_mk _ [(900, 900, _)] ⟨by simp, by simp, by simp [renOf, Blk.live, ht], by simp⟩ (by simp [renOf, hw, ht, hB])
  have hie : i = l.length := by omega
  subst hie
  simp
  (repeat' (first | contradiction | exact .of (by kernel_rfl) | refine And.intro ?_ ?_ | intro _ | (refine agrd_cases (fun h => ?_) (fun h => ?_) <;> (have h' := h; (try simp at h'); first | done | simp [h, h'] | simp))))
end Go.Proofs.Tryz
