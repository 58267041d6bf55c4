/- Types of expressions over columns: the reference's form. -/
import Derived.Test.YtlimkhfjidcelaaDoorKE4
set_option linter.all false
namespace Go.Proofs.Tryd
open Go.Ab
set_option maxRecDepth 100000
set_option maxHeartbeats 16000000

theorem rk_kids (o : Int) (h1 : 1 ≤ o) (h2 : o ≤ 28) (k : Nat) : Cf En 124 [.d (.int .i64 o), .d (.int .i64 k)] [] (.d (.bool (cntd o k))) [] := by
  by_cases h5 : o ≤ 5
  · have hc : cntd o k = ((k : Int) == 0) := by
      have ho : o = 1 ∨ o = 2 ∨ o = 3 ∨ o = 4 ∨ o = 5 := by omega
      rcases ho with rfl | rfl | rfl | rfl | rfl <;> simp [cntd, isOp, opOf, ops]
    rw [hc]
    refine cf_intro mix (fn := Tryd.f124) (by kernel_rfl) rfl (by kernel_rfl) (by decide) (by simp) ?_
    simp [h5]
    (repeat' (first | contradiction | exact .of (by kernel_rfl) | refine And.intro ?_ ?_ | intro _ | (refine agrd_cases (fun h => ?_) (fun h => ?_) <;> (have h' := h; (try simp at h'); first | done | simp [h, h', h5] | simp [h5]))))
  have h6 : 6 ≤ o := by omega
  have hc : cntd o k = if o = 11 ∨ o = 13 ∨ o = 21 ∨ o = 24 ∨ o = 25 then (k : Int) == 1 else if o = 26 then (k : Int) == 3 else if o = 28 then decide (2 ≤ (k : Int)) else (k : Int) == 2 := by
    rcases op_cases h6 h2 with rfl | rfl | rfl | rfl | rfl | rfl | rfl | rfl | rfl | rfl | rfl | rfl | rfl | rfl | rfl | rfl | rfl | rfl | rfl | rfl | rfl | rfl | rfl <;> simp [cntd, isOp, opOf, ops]
    rw [Bool.eq_iff_iff]
    simp
    omega
  rw [hc]
  refine cf_intro mix (fn := Tryd.f124) (by kernel_rfl) rfl (by kernel_rfl) (by decide) (by simp) ?_
  have h5' : ¬ o ≤ 5 := by omega
  by_cases c11 : o = 11
  · subst c11; simp; (repeat' (first | contradiction | exact .of (by kernel_rfl) | refine And.intro ?_ ?_ | intro _ | (refine agrd_cases (fun h => ?_) (fun h => ?_) <;> (have h' := h; (try simp at h'); first | done | simp [h, h'] | simp))))
  by_cases c13 : o = 13
  · subst c13; simp; (repeat' (first | contradiction | exact .of (by kernel_rfl) | refine And.intro ?_ ?_ | intro _ | (refine agrd_cases (fun h => ?_) (fun h => ?_) <;> (have h' := h; (try simp at h'); first | done | simp [h, h'] | simp))))
  by_cases c21 : o = 21
  · subst c21; simp; (repeat' (first | contradiction | exact .of (by kernel_rfl) | refine And.intro ?_ ?_ | intro _ | (refine agrd_cases (fun h => ?_) (fun h => ?_) <;> (have h' := h; (try simp at h'); first | done | simp [h, h'] | simp))))
  by_cases c24 : o = 24
  · subst c24; simp; (repeat' (first | contradiction | exact .of (by kernel_rfl) | refine And.intro ?_ ?_ | intro _ | (refine agrd_cases (fun h => ?_) (fun h => ?_) <;> (have h' := h; (try simp at h'); first | done | simp [h, h'] | simp))))
  by_cases c25 : o = 25
  · subst c25; simp; (repeat' (first | contradiction | exact .of (by kernel_rfl) | refine And.intro ?_ ?_ | intro _ | (refine agrd_cases (fun h => ?_) (fun h => ?_) <;> (have h' := h; (try simp at h'); first | done | simp [h, h'] | simp))))
  by_cases c26 : o = 26
  · subst c26; simp; (repeat' (first | contradiction | exact .of (by kernel_rfl) | refine And.intro ?_ ?_ | intro _ | (refine agrd_cases (fun h => ?_) (fun h => ?_) <;> (have h' := h; (try simp at h'); first | done | simp [h, h'] | simp))))
  by_cases c28 : o = 28
  · subst c28; simp; (repeat' (first | contradiction | exact .of (by kernel_rfl) | refine And.intro ?_ ?_ | intro _ | (refine agrd_cases (fun h => ?_) (fun h => ?_) <;> (have h' := h; (try simp at h'); first | done | simp [h, h'] | simp))))
  simp [h5', c11, c13, c21, c24, c25, c26, c28]
  (repeat' (first | contradiction | exact .of (by kernel_rfl) | refine And.intro ?_ ?_ | intro _ | (refine agrd_cases (fun h => ?_) (fun h => ?_) <;> (have h' := h; (try simp at h'); first | done | simp [h, h', h5', c11, c13, c21, c24, c25, c26, c28] | simp [h5', c11, c13, c21, c24, c25, c26, c28]))))
theorem rk_all (l : List Int) (hl : l.length ≤ 1000) (t : Int) : Cf En 146 [.d (.sl (ints l)), .d (.int .i64 t)] [] (.d (.bool (l.all (· == t)))) [] := by
  refine cf_intro mix (fn := Tryd.f146) (by kernel_rfl) rfl (by kernel_rfl) (by decide) (by simp) ?_
  generalize hres : l.all (· == t) = res
  simp [ints]
  (repeat' (first | contradiction | exact .of (by kernel_rfl) | refine And.intro ?_ ?_ | intro _ | (refine agrd_cases (fun h => ?_) (fun h => ?_) <;> (have h' := h; (try simp at h'); first | done | simp [h, h'] | simp))))
  refine aloopT mix (by decide) (fun i : Nat => { s := mkS [(0, .d (.sl (ints l))), (1, .d (.int .i64 t)), (4, .d (.bool false)), (5, .d (.int .i64 i))], b := mkB [] }) (fun i : Nat => i ≤ l.length ∧ (l.drop i).all (· == t) = res) (fun i => l.length - i) 0 (by simp [hres]) (sub_mk _ [] .nil (by simp [ints])) ?_
  rintro i ⟨hi, ho⟩
  by_cases hlt : i < l.length
  · have hlt' : (i : Int) < l.length := by omega
    have hg : l[i]? = some l[i] := List.getElem?_eq_getElem hlt
    have hd : (l.drop i).all (· == t) = ((l[i] == t) && (l.drop (i + 1)).all (· == t)) := by
      rw [List.drop_eq_getElem_cons hlt, List.all_cons]
    by_cases hx : l[i] = t
    · simp [ints, hlt, hlt', hg, hx]
      (repeat' (first | contradiction | exact .of (by kernel_rfl) | refine And.intro ?_ ?_ | intro _ | (refine agrd_cases (fun h => ?_) (fun h => ?_) <;> (have h' := h; (try simp at h'); first | done | simp [h, h', hlt, hlt', hg, hx] | simp [hlt, hlt', hg, hx]))))
      refine ⟨i + 1, ⟨hlt, ?_⟩, ?_, ?_⟩
      · rw [← ho, hd, hx]; simp
      · refine sub_mk _ [] .nil ?_
        simp [ints]
        exact wrap_in (by omega) (by omega)
      · simp; omega
    · simp [ints, hlt, hlt', hg, hx]
      (repeat' (first | contradiction | exact .of (by kernel_rfl) | refine And.intro ?_ ?_ | intro _ | (refine agrd_cases (fun h => ?_) (fun h => ?_) <;> (have h' := h; (try simp at h'); first | done | simp [h, h', hlt, hlt', hg, hx] | simp [hlt, hlt', hg, hx]))))
      all_goals (rw [← ho, hd]; simp [hx])
  · have hlt' : ¬ (i : Int) < l.length := by omega
    simp [ints, hlt, hlt']
    (repeat' (first | contradiction | exact .of (by kernel_rfl) | refine And.intro ?_ ?_ | intro _ | (refine agrd_cases (fun h => ?_) (fun h => ?_) <;> (have h' := h; (try simp at h'); first | done | simp [h, h'] | simp))))
    all_goals (rw [← ho, List.drop_eq_nil_of_le (by omega)]; rfl)

/-! plain -/
theorem pl_node (o : Int) (ks : List Ex) (h1 : 6 ≤ o) (h2 : o ≤ 28) : Cf En 123 [(Ex.mk o 0 0 [] 0 ks).a] [] (.d (.bool true)) [] := by
  refine cf_intro mix (fn := Tryd.f123) (by kernel_rfl) rfl (by kernel_rfl) (by decide) (by simp) ?_
  have c1 : ¬ o = 1 := by omega
  have c2 : ¬ o = 2 := by omega
  have c3 : ¬ o = 3 := by omega
  have c4 : ¬ o = 4 := by omega
  have c5 : ¬ o = 5 := by omega
  have c6 : 1 ≤ o := by omega
  simp [Ex.a, Ex.c, kidsC_map, c1, c2, c3, c4, c5, c6, h2]
  (repeat' (first | contradiction | exact .of (by kernel_rfl) | refine And.intro ?_ ?_ | intro _ | (refine agrd_cases (fun h => ?_) (fun h => ?_) <;> (have h' := h; (try simp at h'); first | done | simp [h, h', c1, c2, c3, c4, c5, c6, h2] | simp [c1, c2, c3, c4, c5, c6, h2]))))
theorem pl_col (g : Int) : Cf En 123 [(Ex.mk 5 0 0 [] g []).a] [] (.d (.bool true)) [] := by
  refine cf_intro mix (fn := Tryd.f123) (by kernel_rfl) rfl (by kernel_rfl) (by decide) (by simp) ?_
  simp [Ex.a, Ex.c, kidsC_map]
  (repeat' (first | contradiction | exact .of (by kernel_rfl) | refine And.intro ?_ ?_ | intro _ | (refine agrd_cases (fun h => ?_) (fun h => ?_) <;> (have h' := h; (try simp at h'); first | done | simp [h, h'] | simp))))
theorem pl_null (c : Int) (h : 1 ≤ c ∧ c ≤ 3) : Cf En 123 [(Ex.mk 1 c 0 [] 0 []).a] [] (.d (.bool true)) [] := by
  refine cf_intro mix (fn := Tryd.f123) (by kernel_rfl) rfl (by kernel_rfl) (by decide) (by simp) ?_
  have a : ¬ c < 1 := by omega
  have b : ¬ 3 < c := by omega
  simp [Ex.a, Ex.c, kidsC_map, a, b]
  (repeat' (first | contradiction | exact .of (by kernel_rfl) | refine And.intro ?_ ?_ | intro _ | (refine agrd_cases (fun h => ?_) (fun h => ?_) <;> (have h' := h; (try simp at h'); first | done | simp [h, h', a, b] | simp [a, b]))))
theorem pl_int (n : Int) (h : V.valid ⟨1, n, []⟩ = true) : Cf En 123 [(Ex.mk 2 0 n [] 0 []).a] [] (.d (.bool true)) [] := by
  refine cf_intro mix (fn := Tryd.f123) (by kernel_rfl) rfl (by kernel_rfl) (by decide) (by simp) ?_
  have hn : -1000000000000 ≤ n ∧ n ≤ 1000000000000 := by simpa [V.valid] using h
  have a : ¬ n < -1000000000000 := by omega
  have b : ¬ 1000000000000 < n := by omega
  simp [Ex.a, Ex.c, kidsC_map, a, b]
  (repeat' (first | contradiction | exact .of (by kernel_rfl) | refine And.intro ?_ ?_ | intro _ | (refine agrd_cases (fun h => ?_) (fun h => ?_) <;> (have h' := h; (try simp at h'); first | done | simp [h, h', a, b] | simp [a, b]))))
theorem pl_bool (n : Int) (h : V.valid ⟨2, n, []⟩ = true) : Cf En 123 [(Ex.mk 3 0 n [] 0 []).a] [] (.d (.bool true)) [] := by
  refine cf_intro mix (fn := Tryd.f123) (by kernel_rfl) rfl (by kernel_rfl) (by decide) (by simp) ?_
  have hn : n = 0 ∨ n = 1 := by simpa [V.valid] using h
  rcases hn with rfl | rfl
  · simp [Ex.a, Ex.c, kidsC_map]
    (repeat' (first | contradiction | exact .of (by kernel_rfl) | refine And.intro ?_ ?_ | intro _ | (refine agrd_cases (fun h => ?_) (fun h => ?_) <;> (have h' := h; (try simp at h'); first | done | simp [h, h'] | simp))))
  · simp [Ex.a, Ex.c, kidsC_map]
    (repeat' (first | contradiction | exact .of (by kernel_rfl) | refine And.intro ?_ ?_ | intro _ | (refine agrd_cases (fun h => ?_) (fun h => ?_) <;> (have h' := h; (try simp at h'); first | done | simp [h, h'] | simp))))
theorem pl_text (t : List UInt8) (h : V.valid ⟨3, 0, t⟩ = true) : Cf En 123 [(Ex.mk 4 0 0 t 0 []).a] [] (.d (.bool true)) [] := by
  refine cf_intro mix (fn := Tryd.f123) (by kernel_rfl) rfl (by kernel_rfl) (by decide) (by simp) ?_
  simp [Ex.a, Ex.c, kidsC_map]
  (repeat' (first | contradiction | exact .of (by kernel_rfl) | refine And.intro ?_ ?_ | intro _ | (refine agrd_cases (fun h => ?_) (fun h => ?_) <;> (have h' := h; (try simp at h'); first | done | simp [h, h'] | simp))))
  refine acallT_plain (r_valid ⟨3, 0, t⟩) (by simp [V.a]) ?_
  simp [h]
  (repeat' (first | contradiction | exact .of (by kernel_rfl) | refine And.intro ?_ ?_ | intro _ | (refine agrd_cases (fun h => ?_) (fun h => ?_) <;> (have h' := h; (try simp at h'); first | done | simp [h, h'] | simp))))

/-! result -/
theorem rs_leaf (ts : List Int) (hts : ts.length ≤ 1000) (o c n g : Int) (t : List UInt8) (h1 : 1 ≤ o) (h2 : o ≤ 5) (h5 : o = 5 → 0 ≤ g ∧ g < ts.length) :
    Cf En 125 [.d (.sl (ints ts)), (Ex.mk o c n t g []).a, .d (.sl [])] [] (.d (.int .i64 (resG ts o c g []))) [] := by
  have ho : o = 1 ∨ o = 2 ∨ o = 3 ∨ o = 4 ∨ o = 5 := by omega
  refine cf_intro mix (fn := Tryd.f125) (by kernel_rfl) rfl (by kernel_rfl) (by decide) (by simp) ?_
  rcases ho with rfl | rfl | rfl | rfl | rfl
  · simp [Ex.a, Ex.c, kidsC_map, resG]; (repeat' (first | contradiction | exact .of (by kernel_rfl) | refine And.intro ?_ ?_ | intro _ | (refine agrd_cases (fun h => ?_) (fun h => ?_) <;> (have h' := h; (try simp at h'); first | done | simp [h, h'] | simp))))
  · simp [Ex.a, Ex.c, kidsC_map, resG]; (repeat' (first | contradiction | exact .of (by kernel_rfl) | refine And.intro ?_ ?_ | intro _ | (refine agrd_cases (fun h => ?_) (fun h => ?_) <;> (have h' := h; (try simp at h'); first | done | simp [h, h'] | simp))))
  · simp [Ex.a, Ex.c, kidsC_map, resG]; (repeat' (first | contradiction | exact .of (by kernel_rfl) | refine And.intro ?_ ?_ | intro _ | (refine agrd_cases (fun h => ?_) (fun h => ?_) <;> (have h' := h; (try simp at h'); first | done | simp [h, h'] | simp))))
  · simp [Ex.a, Ex.c, kidsC_map, resG]; (repeat' (first | contradiction | exact .of (by kernel_rfl) | refine And.intro ?_ ?_ | intro _ | (refine agrd_cases (fun h => ?_) (fun h => ?_) <;> (have h' := h; (try simp at h'); first | done | simp [h, h'] | simp))))
  · obtain ⟨a, b⟩ := h5 rfl
    have hgk : ts[g.toNat]? = some (ts[g.toNat]'(by omega)) := List.getElem?_eq_getElem _
    generalize ts[g.toNat]'(by omega) = k at hgk
    simp [Ex.a, Ex.c, kidsC_map, resG, ints, a, hgk]
    (repeat' (first | contradiction | exact .of (by kernel_rfl) | refine And.intro ?_ ?_ | intro _ | (refine agrd_cases (fun h => ?_) (fun h => ?_) <;> (have h' := h; (try simp at h'); first | done | simp [h, h', a, hgk] | simp [a, hgk]))))
theorem rs_node (ts : List Int) (hts : ts.length ≤ 1000) (o : Int) (ks : List Ex) (k : List Int) (h1 : 6 ≤ o) (h2 : o ≤ 28) (hk : k.length ≤ 12) (hc : cntd o k.length = true) :
    Cf En 125 [.d (.sl (ints ts)), (Ex.mk o 0 0 [] 0 ks).a, .d (.sl (ints k))] [] (.d (.int .i64 (resG ts o 0 0 k))) [] := by
  have hcn := cnt_of hc h1
  refine cf_intro mix (fn := Tryd.f125) (by kernel_rfl) rfl (by kernel_rfl) (by decide) (by simp) ?_
  by_cases g1 : o ≤ 11
  · have ho : o = 6 ∨ o = 7 ∨ o = 8 ∨ o = 9 ∨ o = 10 ∨ o = 11 := by omega
    rcases ho with rfl | rfl | rfl | rfl | rfl | rfl
    all_goals
      rw [show resG ts _ 0 0 k = if k.all (· == 1) = true then 1 else 0 from by simp [resG]]
      simp [Ex.a, Ex.c, kidsC_map]
      (repeat' (first | contradiction | exact .of (by kernel_rfl) | refine And.intro ?_ ?_ | intro _ | (refine agrd_cases (fun h => ?_) (fun h => ?_) <;> (have h' := h; (try simp at h'); first | done | simp [h, h'] | simp))))
      refine acallT_plain (rk_all k (by omega) 1) (by simp) ?_
      cases k.all (· == 1) <;> simp <;> (repeat' (first | contradiction | exact .of (by kernel_rfl) | refine And.intro ?_ ?_ | intro _ | (refine agrd_cases (fun h => ?_) (fun h => ?_) <;> (have h' := h; (try simp at h'); first | done | simp [h, h'] | simp))))
  by_cases g12 : o = 12
  · subst g12
    rw [show resG ts _ 0 0 k = if k.all (· == 3) = true then 3 else 0 from by simp [resG]]
    simp [Ex.a, Ex.c, kidsC_map]
    (repeat' (first | contradiction | exact .of (by kernel_rfl) | refine And.intro ?_ ?_ | intro _ | (refine agrd_cases (fun h => ?_) (fun h => ?_) <;> (have h' := h; (try simp at h'); first | done | simp [h, h'] | simp))))
    refine acallT_plain (rk_all k (by omega) 3) (by simp) ?_
    cases k.all (· == 3) <;> simp <;> (repeat' (first | contradiction | exact .of (by kernel_rfl) | refine And.intro ?_ ?_ | intro _ | (refine agrd_cases (fun h => ?_) (fun h => ?_) <;> (have h' := h; (try simp at h'); first | done | simp [h, h'] | simp))))
  by_cases g13 : o = 13
  · subst g13
    rw [show resG ts _ 0 0 k = if k.all (· == 3) = true then 1 else 0 from by simp [resG]]
    simp [Ex.a, Ex.c, kidsC_map]
    (repeat' (first | contradiction | exact .of (by kernel_rfl) | refine And.intro ?_ ?_ | intro _ | (refine agrd_cases (fun h => ?_) (fun h => ?_) <;> (have h' := h; (try simp at h'); first | done | simp [h, h'] | simp))))
    refine acallT_plain (rk_all k (by omega) 3) (by simp) ?_
    cases k.all (· == 3) <;> simp <;> (repeat' (first | contradiction | exact .of (by kernel_rfl) | refine And.intro ?_ ?_ | intro _ | (refine agrd_cases (fun h => ?_) (fun h => ?_) <;> (have h' := h; (try simp at h'); first | done | simp [h, h'] | simp))))
  by_cases g21 : o = 21
  · subst g21
    rw [show resG ts 21 0 0 k = 2 from by simp [resG]]
    simp [Ex.a, Ex.c, kidsC_map]
    (repeat' (first | contradiction | exact .of (by kernel_rfl) | refine And.intro ?_ ?_ | intro _ | (refine agrd_cases (fun h => ?_) (fun h => ?_) <;> (have h' := h; (try simp at h'); first | done | simp [h, h'] | simp))))
  by_cases g22 : o = 22
  · subst g22
    rw [show resG ts _ 0 0 k = if k.all (· == 2) = true then 2 else 0 from by simp [resG]]
    simp [Ex.a, Ex.c, kidsC_map]
    (repeat' (first | contradiction | exact .of (by kernel_rfl) | refine And.intro ?_ ?_ | intro _ | (refine agrd_cases (fun h => ?_) (fun h => ?_) <;> (have h' := h; (try simp at h'); first | done | simp [h, h'] | simp))))
    refine acallT_plain (rk_all k (by omega) 2) (by simp) ?_
    cases k.all (· == 2) <;> simp <;> (repeat' (first | contradiction | exact .of (by kernel_rfl) | refine And.intro ?_ ?_ | intro _ | (refine agrd_cases (fun h => ?_) (fun h => ?_) <;> (have h' := h; (try simp at h'); first | done | simp [h, h'] | simp))))
  by_cases g23 : o = 23
  · subst g23
    rw [show resG ts _ 0 0 k = if k.all (· == 2) = true then 2 else 0 from by simp [resG]]
    simp [Ex.a, Ex.c, kidsC_map]
    (repeat' (first | contradiction | exact .of (by kernel_rfl) | refine And.intro ?_ ?_ | intro _ | (refine agrd_cases (fun h => ?_) (fun h => ?_) <;> (have h' := h; (try simp at h'); first | done | simp [h, h'] | simp))))
    refine acallT_plain (rk_all k (by omega) 2) (by simp) ?_
    cases k.all (· == 2) <;> simp <;> (repeat' (first | contradiction | exact .of (by kernel_rfl) | refine And.intro ?_ ?_ | intro _ | (refine agrd_cases (fun h => ?_) (fun h => ?_) <;> (have h' := h; (try simp at h'); first | done | simp [h, h'] | simp))))
  by_cases g24 : o = 24
  · subst g24
    rw [show resG ts _ 0 0 k = if k.all (· == 2) = true then 2 else 0 from by simp [resG]]
    simp [Ex.a, Ex.c, kidsC_map]
    (repeat' (first | contradiction | exact .of (by kernel_rfl) | refine And.intro ?_ ?_ | intro _ | (refine agrd_cases (fun h => ?_) (fun h => ?_) <;> (have h' := h; (try simp at h'); first | done | simp [h, h'] | simp))))
    refine acallT_plain (rk_all k (by omega) 2) (by simp) ?_
    cases k.all (· == 2) <;> simp <;> (repeat' (first | contradiction | exact .of (by kernel_rfl) | refine And.intro ?_ ?_ | intro _ | (refine agrd_cases (fun h => ?_) (fun h => ?_) <;> (have h' := h; (try simp at h'); first | done | simp [h, h'] | simp))))
  by_cases g25 : o = 25
  · subst g25
    rw [show resG ts _ 0 0 k = if k.all (· == 2) = true then 2 else 0 from by simp [resG]]
    simp [Ex.a, Ex.c, kidsC_map]
    (repeat' (first | contradiction | exact .of (by kernel_rfl) | refine And.intro ?_ ?_ | intro _ | (refine agrd_cases (fun h => ?_) (fun h => ?_) <;> (have h' := h; (try simp at h'); first | done | simp [h, h'] | simp))))
    refine acallT_plain (rk_all k (by omega) 2) (by simp) ?_
    cases k.all (· == 2) <;> simp <;> (repeat' (first | contradiction | exact .of (by kernel_rfl) | refine And.intro ?_ ?_ | intro _ | (refine agrd_cases (fun h => ?_) (fun h => ?_) <;> (have h' := h; (try simp at h'); first | done | simp [h, h'] | simp))))
  by_cases g26 : o = 26
  · subst g26
    have h3 : k.length = 3 := by simpa using hcn
    match k, h3 with
    | [a, b, c], _ =>
      rw [show resG ts 26 0 0 [a, b, c] = if a = 2 ∧ b = c then b else 0 from by simp [resG]]
      by_cases e1 : a = 2
      · subst e1
        by_cases e2 : b = c
        · subst e2
          simp [Ex.a, Ex.c, kidsC_map, ints]
          (repeat' (first | contradiction | exact .of (by kernel_rfl) | refine And.intro ?_ ?_ | intro _ | (refine agrd_cases (fun h => ?_) (fun h => ?_) <;> (have h' := h; (try simp at h'); first | done | simp [h, h'] | simp))))
        · simp [Ex.a, Ex.c, kidsC_map, ints, e2]
          (repeat' (first | contradiction | exact .of (by kernel_rfl) | refine And.intro ?_ ?_ | intro _ | (refine agrd_cases (fun h => ?_) (fun h => ?_) <;> (have h' := h; (try simp at h'); first | done | simp [h, h', e2] | simp [e2]))))
      · simp [Ex.a, Ex.c, kidsC_map, ints, e1]
        (repeat' (first | contradiction | exact .of (by kernel_rfl) | refine And.intro ?_ ?_ | intro _ | (refine agrd_cases (fun h => ?_) (fun h => ?_) <;> (have h' := h; (try simp at h'); first | done | simp [h, h', e1] | simp [e1]))))
  by_cases g27 : o = 27
  · subst g27
    have h3 : k.length = 2 := by simpa using hcn
    match k, h3 with
    | [a, b], _ =>
      rw [show resG ts 27 0 0 [a, b] = if a = b then a else 0 from by simp [resG]]
      by_cases e1 : a = b
      · subst e1
        simp [Ex.a, Ex.c, kidsC_map, ints]
        (repeat' (first | contradiction | exact .of (by kernel_rfl) | refine And.intro ?_ ?_ | intro _ | (refine agrd_cases (fun h => ?_) (fun h => ?_) <;> (have h' := h; (try simp at h'); first | done | simp [h, h'] | simp))))
      · simp [Ex.a, Ex.c, kidsC_map, ints, e1]
        (repeat' (first | contradiction | exact .of (by kernel_rfl) | refine And.intro ?_ ?_ | intro _ | (refine agrd_cases (fun h => ?_) (fun h => ?_) <;> (have h' := h; (try simp at h'); first | done | simp [h, h', e1] | simp [e1]))))
  have hk1 : 1 ≤ k.length := by
    by_cases g28 : o = 28
    · subst g28; have : 2 ≤ k.length := by simpa using hcn
      omega
    · have g11 : ¬ o = 11 := by omega
      have : k.length = 2 := by simpa [g11, g13, g21, g24, g25, g26, g28] using hcn
      omega
  have hgk : k[0]? = some (k[0]'(by omega)) := List.getElem?_eq_getElem _
  generalize k[0]'(by omega) = a at hgk
  have g1' : ¬ o ≤ 5 := by omega
  have c1 : ¬ o = 1 := by omega
  have c2 : ¬ o = 2 := by omega
  have c3 : ¬ o = 3 := by omega
  have c4 : ¬ o = 4 := by omega
  have c5 : ¬ o = 5 := by omega
  have c6 : ¬ o = 6 := by omega
  have c7 : ¬ o = 7 := by omega
  have c8 : ¬ o = 8 := by omega
  have c9 : ¬ o = 9 := by omega
  have c10 : ¬ o = 10 := by omega
  have c11 : ¬ o = 11 := by omega
  rw [show resG ts o 0 0 k = if k.all (· == a) = true then 2 else 0 from by simp [resG, g1, g12, g13, g21, g22, g23, g24, g25, g26, g27, c1, c2, c3, c4, c5, hgk]]
  simp [Ex.a, Ex.c, kidsC_map, g1, g12, g13, g21, g22, g23, g24, g25, g26, g27, c1, c2, c3, c4, c5, c6, c7, c8, c9, c10, c11, ints, hgk]
  (repeat' (first | contradiction | exact .of (by kernel_rfl) | refine And.intro ?_ ?_ | intro _ | (refine agrd_cases (fun h => ?_) (fun h => ?_) <;> (have h' := h; (try simp at h'); first | done | simp [h, h', g1, g12, g13, g21, g22, g23, g24, g25, g26, g27, c1, c2, c3, c4, c5, c6, c7, c8, c9, c10, c11, hgk] | simp [g1, g12, g13, g21, g22, g23, g24, g25, g26, g27, c1, c2, c3, c4, c5, c6, c7, c8, c9, c10, c11, hgk]))))
  refine acallT_plain (rk_all k (by omega) a) (by simp [ints]) ?_
  cases k.all (· == a) <;> simp <;> (repeat' (first | contradiction | exact .of (by kernel_rfl) | refine And.intro ?_ ?_ | intro _ | (refine agrd_cases (fun h => ?_) (fun h => ?_) <;> (have h' := h; (try simp at h'); first | done | simp [h, h'] | simp))))

def rtF (ts : List Int) (o c n g : Int) (t : List UInt8) (ks : List Ex) (kts : List Int) : Nat → St
  | 0 => { s := mkS [(0, .d (.sl (ints ts))), (3, .ptr 3 0 0), (4, .d (.int .i64 0)), (5, .d (.int .i64 0)), (6, .nils), (7, .d (.int .i64 0))], b := mkB [(3, 3, .var [.d (.int .i64 o), .d (.int .i64 c), .d (.int .i64 n), .d (.str t), .d (.int .i64 g), .d (.sl (ks.map Ex.c))])] }
  | i + 1 => { s := mkS [(0, .d (.sl (ints ts))), (3, .ptr 3 0 0), (4, .d (.int .i64 0)), (5, .d (.int .i64 0)), (6, .ref 900 0 (i + 1) 1), (7, .d (.int .i64 (i + 1 : Nat)))], b := mkB [(3, 3, .var [.d (.int .i64 o), .d (.int .i64 c), .d (.int .i64 n), .d (.str t), .d (.int .i64 g), .d (.sl (ks.map Ex.c))]), (900, 900, .arr 3 1 (ints (kts.take (i + 1))) false)] }
theorem rt_node (ts : List Int) (hts : ts.length ≤ 1000) (o c n g : Int) (t : List UInt8) (ks : List Ex) (hk : ks.length ≤ 12) (h1 : 1 ≤ o) (h2 : o ≤ 28)
    (hrec : ∀ z ∈ ks, Cf En 96 [.d (.sl (ints ts)), z.a] [] (.tup [.d (.int .i64 (tyG ts z).1), .d (.int .i64 (tyG ts z).2)]) [])
    (hcn : cntd o ks.length = true) (hpl : Cf En 123 [(Ex.mk o c n t g ks).a] [] (.d (.bool true)) []) (h5 : o = 5 → 0 ≤ g ∧ g < ts.length)
    (hres : ∀ k : List Int, k.length = ks.length → Cf En 125 [.d (.sl (ints ts)), (Ex.mk o c n t g ks).a, .d (.sl (ints k))] [] (.d (.int .i64 (resG ts o c g k))) [])
    (hnd : (eachG (tyG ts) ks).2 = 0 → nodeTy ts o c g (ks.map fun z => (tyG ts z).1) = if resG ts o c g (ks.map fun z => (tyG ts z).1) < 1 ∨ 3 < resG ts o c g (ks.map fun z => (tyG ts z).1) then (0, 4) else (resG ts o c g (ks.map fun z => (tyG ts z).1), 0)) :
    Cf En 96 [.d (.sl (ints ts)), (Ex.mk o c n t g ks).a] [] (.tup [.d (.int .i64 (tyG ts (.mk o c n t g ks)).1), .d (.int .i64 (tyG ts (.mk o c n t g ks)).2)]) [] := by
  refine cf_intro mix (fn := Tryd.f96) (by kernel_rfl) rfl (by kernel_rfl) (by decide) (by simp) ?_
  obtain ⟨kts, hkts⟩ : ∃ kts, kts = ks.map fun z => (tyG ts z).1 := ⟨_, rfl⟩
  have hlen : kts.length = ks.length := by rw [hkts, List.length_map]
  have hrs := hres kts hlen
  have hkd := rk_kids o h1 h2 ks.length
  rw [hcn] at hkd
  rw [← hkts] at hnd
  rw [tyG, tysG_each]
  rw [Ex.a] at hpl hrs
  simp [Ex.a, Ex.c, kidsC_map] at hpl hrs ⊢
  (repeat' (first | contradiction | exact .of (by kernel_rfl) | refine And.intro ?_ ?_ | intro _ | (refine agrd_cases (fun h => ?_) (fun h => ?_) <;> (have h' := h; (try simp at h'); first | done | simp [h, h'] | simp))))
  refine aloopT mix (by decide) (rtF ts o c n g t ks kts) (fun i : Nat => i ≤ ks.length ∧ ∀ j z, j < i → ks[j]? = some z → (tyG ts z).2 = 0) (fun i => ks.length - i) 0 (by simp) (sub_mk [(0, _), (3, _), (4, _), (5, _), (6, _), (7, _)] [(3, 3, _)] ⟨by simp, by simp, by simp [renOf, Blk.live], by simp⟩ (by simp [renOf])) ?_
  rintro i ⟨hi, ho⟩
  by_cases hlt : i < ks.length
  · have hg : ks[i]? = some ks[i] := List.getElem?_eq_getElem hlt
    obtain ⟨z, hz⟩ : ∃ z, z = ks[i] := ⟨_, rfl⟩
    have hzm : z ∈ ks := by rw [hz]; exact List.getElem_mem hlt
    have hr := hrec z hzm
    have hgi : ∀ h, ks[i]'h = z := fun _ => hz.symm
    rw [← hz] at hg
    have htk : kts.take (i + 1) = kts.take i ++ [(tyG ts z).1] := by
      rw [hkts, List.take_add_one, List.getElem?_map, hg]; rfl
    have c1 := Ex.clen z
    have k1 := Ex.ctake z
    have k1' := Ex.ctake' z
    by_cases he : (tyG ts z).2 = 0
    · have hok : ∀ j w, j < i + 1 → ks[j]? = some w → (tyG ts w).2 = 0 := fun j w hj hw => by
        rcases Nat.lt_or_ge j i with c | c
        · exact ho j w c hw
        · have : j = i := by omega
          subst this
          rw [hg] at hw
          cases hw
          exact he
      rw [he] at hr
      generalize (tyG ts z).1 = kk at hr htk
      clear hpl hrs hkd hnd
      cases i with
      | zero =>
        have hlt2 : (0 : Int) < ks.length := by omega
        simp [rtF, hlt, hlt2, hg, hgi, c1, k1, k1']
        (repeat' (first | contradiction | exact .of (by kernel_rfl) | refine And.intro ?_ ?_ | intro _ | (refine agrd_cases (fun h => ?_) (fun h => ?_) <;> (have h' := h; (try simp at h'); first | done | simp [h, h'] | simp))))
        refine acallT_plain hr (by simp [Ex.a]) ?_
        simp
        (repeat' (first | contradiction | exact .of (by kernel_rfl) | refine And.intro ?_ ?_ | intro _ | (refine agrd_cases (fun h => ?_) (fun h => ?_) <;> (have h' := h; (try simp at h'); first | done | simp [h, h'] | simp))))
        refine ⟨1, ⟨hlt, hok⟩, ?_, ?_⟩
        · refine sub_mk [(0, _), (3, _), (4, _), (5, _), (6, _), (7, _)] [(3, 3, _), (900, 34, _)] ⟨by simp, by simp, ?_, by simp⟩ ?_
          · simp only [Nat.zero_add, List.take_zero, List.nil_append] at htk
            simp [renOf, Blk.live, htk, ints]
          · simp [renOf]
            exact wrap_in (by omega) (by omega)
        · simp; omega
      | succ i =>
        have hlt2 : (i : Int) + 1 < ks.length := by omega
        have hp : (0 : Int) ≤ (i : Int) + 1 := by omega
        have hmin : min (i + 1) kts.length = i + 1 := by omega
        have s1 : (i + 1 + 1) * 8 ≤ 140737488355328 := by omega
        have s2 : i ≤ 9223372036854775805 := by omega
        simp [rtF, hlt, hlt2, hp, hg, hgi, c1, k1, k1']
        (repeat' (first | contradiction | exact .of (by kernel_rfl) | refine And.intro ?_ ?_ | intro _ | (refine agrd_cases (fun h => ?_) (fun h => ?_) <;> (have h' := h; (try simp at h'); first | done | simp [h, h'] | simp))))
        refine acallT_plain hr (by simp [Ex.a]) ?_
        simp [ints, hmin, s1, s2]
        (repeat' (first | contradiction | exact .of (by kernel_rfl) | refine And.intro ?_ ?_ | intro _ | (refine agrd_cases (fun h => ?_) (fun h => ?_) <;> (have h' := h; (try simp at h'); first | done | simp [h, h'] | simp))))
        refine ⟨i + 2, ⟨by omega, hok⟩, ?_, ?_⟩
        · refine sub_mk [(0, _), (3, _), (4, _), (5, _), (6, _), (7, _)] [(3, 3, _), (900, 34, _)] ⟨by simp, by simp, ?_, by simp⟩ ?_
          · simp [renOf, Blk.live, htk, ints]
          · simp [renOf, ints]
            rw [wrap_in (by omega) (by omega)]
        · simp; omega
    · have hb := eachG_bad (f := tyG ts) ho hg he
      rw [hb, if_neg he]
      clear hpl hrs hkd hnd
      cases i with
      | zero =>
        have hlt2 : (0 : Int) < ks.length := by omega
        simp [rtF, hlt, hlt2, hg, hgi, c1, k1, k1']
        (repeat' (first | contradiction | exact .of (by kernel_rfl) | refine And.intro ?_ ?_ | intro _ | (refine agrd_cases (fun h => ?_) (fun h => ?_) <;> (have h' := h; (try simp at h'); first | done | simp [h, h'] | simp))))
        refine acallT_plain hr (by simp [Ex.a]) ?_
        simp [he]
        (repeat' (first | contradiction | exact .of (by kernel_rfl) | refine And.intro ?_ ?_ | intro _ | (refine agrd_cases (fun h => ?_) (fun h => ?_) <;> (have h' := h; (try simp at h'); first | done | simp [h, h', he] | simp [he]))))
      | succ i =>
        have hlt2 : (i : Int) + 1 < ks.length := by omega
        have hp : (0 : Int) ≤ (i : Int) + 1 := by omega
        simp [rtF, hlt, hlt2, hp, hg, hgi, c1, k1, k1']
        (repeat' (first | contradiction | exact .of (by kernel_rfl) | refine And.intro ?_ ?_ | intro _ | (refine agrd_cases (fun h => ?_) (fun h => ?_) <;> (have h' := h; (try simp at h'); first | done | simp [h, h'] | simp))))
        refine acallT_plain hr (by simp [Ex.a]) ?_
        simp [he]
        (repeat' (first | contradiction | exact .of (by kernel_rfl) | refine And.intro ?_ ?_ | intro _ | (refine agrd_cases (fun h => ?_) (fun h => ?_) <;> (have h' := h; (try simp at h'); first | done | simp [h, h', he] | simp [he]))))
  have hie : i = ks.length := by omega
  subst hie
  have hall := eachG_ok (f := tyG ts) (l := ks) fun x hx => by
    obtain ⟨j, hj, rfl⟩ := List.getElem_of_mem hx
    exact ho j _ hj (List.getElem?_eq_getElem hj)
  have hnd := hnd (by rw [hall])
  rw [hall, if_pos rfl, ← hkts, hnd]
  clear hrec hi hlt ho hall hnd
  have hrng : ¬ (o = 5 ∧ (g < 0 ∨ (ts.length : Int) ≤ g)) := by
    rintro ⟨h, h'⟩
    have := h5 h
    omega
  cases hkl : ks.length with
  | zero =>
    have hk0 : kts = [] := List.eq_nil_of_length_eq_zero (by omega)
    subst hk0
    rw [hkl] at hkd
    simp [rtF, hkl]
    (repeat' (first | contradiction | exact .of (by kernel_rfl) | refine And.intro ?_ ?_ | intro _ | (refine agrd_cases (fun h => ?_) (fun h => ?_) <;> (have h' := h; (try simp at h'); first | done | simp [h, h'] | simp))))
    refine acallT_plain hpl (by simp) ?_
    simp
    (repeat' (first | contradiction | exact .of (by kernel_rfl) | refine And.intro ?_ ?_ | intro _ | (refine agrd_cases (fun h => ?_) (fun h => ?_) <;> (have h' := h; (try simp at h'); first | done | simp [h, h'] | simp))))
    refine acallT_plain hkd (by simp) ?_
    generalize resG ts o c g [] = r at *
    by_cases ho5 : o = 5
    · obtain ⟨a, b⟩ := h5 ho5
      have a' : ¬ g < 0 := by omega
      have b' : ¬ (ts.length : Int) ≤ g := by omega
      simp [ho5, a', b', ints]
      (repeat' (first | contradiction | exact .of (by kernel_rfl) | refine And.intro ?_ ?_ | intro _ | (refine agrd_cases (fun h => ?_) (fun h => ?_) <;> (have h' := h; (try simp at h'); first | done | simp [h, h', ho5, a', b'] | simp [ho5, a', b']))))
      refine acallT_plain hrs (by simp [ints, ho5]) ?_
      by_cases q1 : r < 1
      · simp [q1]
        (repeat' (first | contradiction | exact .of (by kernel_rfl) | refine And.intro ?_ ?_ | intro _ | (refine agrd_cases (fun h => ?_) (fun h => ?_) <;> (have h' := h; (try simp at h'); first | done | simp [h, h', q1] | simp [q1]))))
      · by_cases q2 : 3 < r
        · simp [q1, q2]
          (repeat' (first | contradiction | exact .of (by kernel_rfl) | refine And.intro ?_ ?_ | intro _ | (refine agrd_cases (fun h => ?_) (fun h => ?_) <;> (have h' := h; (try simp at h'); first | done | simp [h, h', q1, q2] | simp [q1, q2]))))
        · simp [q1, q2]
          (repeat' (first | contradiction | exact .of (by kernel_rfl) | refine And.intro ?_ ?_ | intro _ | (refine agrd_cases (fun h => ?_) (fun h => ?_) <;> (have h' := h; (try simp at h'); first | done | simp [h, h', q1, q2] | simp [q1, q2]))))
    · simp [ho5]
      (repeat' (first | contradiction | exact .of (by kernel_rfl) | refine And.intro ?_ ?_ | intro _ | (refine agrd_cases (fun h => ?_) (fun h => ?_) <;> (have h' := h; (try simp at h'); first | done | simp [h, h', ho5] | simp [ho5]))))
      refine acallT_plain hrs (by simp [ints]) ?_
      by_cases q1 : r < 1
      · simp [q1]
        (repeat' (first | contradiction | exact .of (by kernel_rfl) | refine And.intro ?_ ?_ | intro _ | (refine agrd_cases (fun h => ?_) (fun h => ?_) <;> (have h' := h; (try simp at h'); first | done | simp [h, h', q1] | simp [q1]))))
      · by_cases q2 : 3 < r
        · simp [q1, q2]
          (repeat' (first | contradiction | exact .of (by kernel_rfl) | refine And.intro ?_ ?_ | intro _ | (refine agrd_cases (fun h => ?_) (fun h => ?_) <;> (have h' := h; (try simp at h'); first | done | simp [h, h', q1, q2] | simp [q1, q2]))))
        · simp [q1, q2]
          (repeat' (first | contradiction | exact .of (by kernel_rfl) | refine And.intro ?_ ?_ | intro _ | (refine agrd_cases (fun h => ?_) (fun h => ?_) <;> (have h' := h; (try simp at h'); first | done | simp [h, h', q1, q2] | simp [q1, q2]))))
  | succ i =>
    have hkt : kts.length = i + 1 := by omega
    have htk : kts.take (i + 1) = kts := List.take_of_length_le (by omega)
    have htk2 : List.take (i + 1) (List.map (fun n => [D.int .i64 n]) kts) = List.map (fun n => [D.int .i64 n]) kts := List.take_of_length_le (by simp; omega)
    have ho5 : o ≠ 5 := by
      rintro rfl
      rw [hkl] at hcn
      simp [cntd, isOp, opOf, ops] at hcn
      omega
    clear hkts
    rw [hkl] at hkd
    simp [rtF, htk, hkl]
    (repeat' (first | contradiction | exact .of (by kernel_rfl) | refine And.intro ?_ ?_ | intro _ | (refine agrd_cases (fun h => ?_) (fun h => ?_) <;> (have h' := h; (try simp at h'); first | done | simp [h, h'] | simp))))
    refine acallT_plain hpl (by simp) ?_
    simp
    (repeat' (first | contradiction | exact .of (by kernel_rfl) | refine And.intro ?_ ?_ | intro _ | (refine agrd_cases (fun h => ?_) (fun h => ?_) <;> (have h' := h; (try simp at h'); first | done | simp [h, h'] | simp))))
    refine acallT_plain hkd (by simp) ?_
    generalize resG ts o c g kts = r at *
    simp [ho5, ints, hkt, htk2]
    (repeat' (first | contradiction | exact .of (by kernel_rfl) | refine And.intro ?_ ?_ | intro _ | (refine agrd_cases (fun h => ?_) (fun h => ?_) <;> (have h' := h; (try simp at h'); first | done | simp [h, h', ho5] | simp [ho5]))))
    refine acallT_plain hrs (by simp [ints, hkt, htk2]) ?_
    by_cases q1 : r < 1
    · simp [q1]
      (repeat' (first | contradiction | exact .of (by kernel_rfl) | refine And.intro ?_ ?_ | intro _ | (refine agrd_cases (fun h => ?_) (fun h => ?_) <;> (have h' := h; (try simp at h'); first | done | simp [h, h', q1] | simp [q1]))))
    · by_cases q2 : 3 < r
      · simp [q1, q2]
        (repeat' (first | contradiction | exact .of (by kernel_rfl) | refine And.intro ?_ ?_ | intro _ | (refine agrd_cases (fun h => ?_) (fun h => ?_) <;> (have h' := h; (try simp at h'); first | done | simp [h, h', q1, q2] | simp [q1, q2]))))
      · simp [q1, q2]
        (repeat' (first | contradiction | exact .of (by kernel_rfl) | refine And.intro ?_ ?_ | intro _ | (refine agrd_cases (fun h => ?_) (fun h => ?_) <;> (have h' := h; (try simp at h'); first | done | simp [h, h', q1, q2] | simp [q1, q2]))))
theorem r_typed {ts : List Int} (hts : ts.length ≤ 1000) : ∀ {e : Ex}, XOk ts.length e → ∀ q, e.few q = true → Cf En 96 [.d (.sl (ints ts)), e.a] [] (.tup [.d (.int .i64 (tyG ts e).1), .d (.int .i64 (tyG ts e).2)]) [] := by
  intro e h
  have leaf : ∀ (o c n g : Int) (t : List UInt8), 1 ≤ o → o ≤ 5 → (o = 1 → 1 ≤ c ∧ c ≤ 3) → (o = 5 → 0 ≤ g ∧ g < ts.length) → cntd o 0 = true → Cf En 123 [(Ex.mk o c n t g []).a] [] (.d (.bool true)) [] →
      Cf En 96 [.d (.sl (ints ts)), (Ex.mk o c n t g []).a] [] (.tup [.d (.int .i64 (tyG ts (.mk o c n t g [])).1), .d (.int .i64 (tyG ts (.mk o c n t g [])).2)]) [] := fun o c n g t h1 h2 hc h5 hcn hpl =>
    rt_node ts hts o c n g t [] (by simp) h1 (by omega) (fun z hz => by cases hz) hcn hpl h5 (fun k hk => by
      have : k = [] := List.eq_nil_of_length_eq_zero hk
      subst this
      exact rs_leaf ts hts o c n g t h1 h2 h5) (fun _ => res_leaf ts o c g h1 h2 hc)
  induction h with
  | nul c h1 h2 => intro q hq; exact leaf 1 c 0 0 [] (by omega) (by omega) (fun _ => ⟨h1, h2⟩) (fun h => absurd h (by decide)) (by decide) (pl_null c ⟨h1, h2⟩)
  | int v hv => intro q hq; exact leaf 2 0 v 0 [] (by omega) (by omega) (fun h => absurd h (by decide)) (fun h => absurd h (by decide)) (by decide) (pl_int v hv)
  | bool v hv => intro q hq; exact leaf 3 0 v 0 [] (by omega) (by omega) (fun h => absurd h (by decide)) (fun h => absurd h (by decide)) (by decide) (pl_bool v hv)
  | text t hv => intro q hq; exact leaf 4 0 0 0 t (by omega) (by omega) (fun h => absurd h (by decide)) (fun h => absurd h (by decide)) (by decide) (pl_text t hv)
  | col g h1 h2 => intro q hq; exact leaf 5 0 0 g [] (by omega) (by omega) (fun h => absurd h (by decide)) (fun _ => ⟨h1, h2⟩) (by decide) (pl_col g)
  | node o ks h1 h2 hc hk ih =>
    intro q hq
    obtain ⟨hkl, _, hfew⟩ := few_kids hq
    exact rt_node ts hts o 0 0 0 [] ks hkl (by omega) h2 (fun z hz => ih z hz (q + 1) (hfew z hz)) hc (pl_node o ks h1 h2) (fun h => absurd h (by omega)) (fun k hk => rs_node ts hts o ks k h1 h2 (by omega) (by rw [hk]; exact hc))
      (fun h0 => res_node ts o 0 0 _ h1 h2 (by rw [List.length_map]; exact hc) fun x hx => by
        obtain ⟨z, hz, rfl⟩ := List.mem_map.1 hx
        exact ty_in (hk z hz) (eachG_all ks h0 z hz))
theorem r_type {ts : List Int} (hts : ts.length ≤ 1000) {e : Ex} (h : XOk ts.length e) (hq : e.few 0 = true) : Cf En 58 [.d (.sl (ints ts)), e.a] [] (.tup [.d (.int .i64 (typeG ts e).1), .d (.int .i64 (typeG ts e).2)]) [] := by
  refine cf_intro mix (fn := Tryd.f58) (by kernel_rfl) rfl (by kernel_rfl) (by decide) (by simp) ?_
  have hs := size_cf (SizeOf.sizeOf e + 1) e (by omega) (fits_few _ e (Nat.lt_succ_self _) 0 hq)
  have hp := rx_depth (SizeOf.sizeOf e + 1) e (by omega) 0 hq
  have ht := r_typed hts h 0 hq
  unfold typeG
  simp [Ex.a, Ex.clen, Ex.ctake]
  (repeat' (first | contradiction | exact .of (by kernel_rfl) | refine And.intro ?_ ?_ | intro _ | (refine agrd_cases (fun h => ?_) (fun h => ?_) <;> (have h' := h; (try simp at h'); first | done | simp [h, h'] | simp))))
  refine acallT_plain hs (by simp [Ex.a]) ?_
  by_cases h2 : 200 < e.size
  · simp [h2]
    (repeat' (first | contradiction | exact .of (by kernel_rfl) | refine And.intro ?_ ?_ | intro _ | (refine agrd_cases (fun h => ?_) (fun h => ?_) <;> (have h' := h; (try simp at h'); first | done | simp [h, h'] | simp))))
  · by_cases h3 : (24 : Int) < e.dep
    · simp [h2, h3, Ex.clen, Ex.ctake]
      (repeat' (first | contradiction | exact .of (by kernel_rfl) | refine And.intro ?_ ?_ | intro _ | (refine agrd_cases (fun h => ?_) (fun h => ?_) <;> (have h' := h; (try simp at h'); first | done | simp [h, h'] | simp))))
      refine acallT_plain hp (by simp [Ex.a]) ?_
      simp [h3, Ex.clen, Ex.ctake]
      (repeat' (first | contradiction | exact .of (by kernel_rfl) | refine And.intro ?_ ?_ | intro _ | (refine agrd_cases (fun h => ?_) (fun h => ?_) <;> (have h' := h; (try simp at h'); first | done | simp [h, h'] | simp))))
      all_goals simp [h2]
    · simp [h2, h3, Ex.clen, Ex.ctake]
      (repeat' (first | contradiction | exact .of (by kernel_rfl) | refine And.intro ?_ ?_ | intro _ | (refine agrd_cases (fun h => ?_) (fun h => ?_) <;> (have h' := h; (try simp at h'); first | done | simp [h, h'] | simp))))
      refine acallT_plain hp (by simp [Ex.a]) ?_
      simp [h3, Ex.clen, Ex.ctake]
      (repeat' (first | contradiction | exact .of (by kernel_rfl) | refine And.intro ?_ ?_ | intro _ | (refine agrd_cases (fun h => ?_) (fun h => ?_) <;> (have h' := h; (try simp at h'); first | done | simp [h, h'] | simp))))
      refine acallT_plain ht (by simp [Ex.a]) ?_
      simp
      (repeat' (first | contradiction | exact .of (by kernel_rfl) | refine And.intro ?_ ?_ | intro _ | (refine agrd_cases (fun h => ?_) (fun h => ?_) <;> (have h' := h; (try simp at h'); first | done | simp [h, h'] | simp))))
      all_goals simp [h2, h3]
end Go.Proofs.Tryd
