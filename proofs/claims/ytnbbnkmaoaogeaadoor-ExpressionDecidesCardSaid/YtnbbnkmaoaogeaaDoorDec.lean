/- The law of decisions. -/
import Derived.Test.YtnbbnkmaoaogeaaDoorWty
import Derived.Test.YtnbbnkmaoaogeaaDoorDua
set_option linter.all false
namespace Go.Proofs.Tryd
open Go.Ab
set_option maxRecDepth 100000
set_option maxHeartbeats 4000000

theorem decides_one {v : V} (h : v.of 2) : ((if v.tr = 1 then 1 else 0) + (if (notV v).tr = 1 then 1 else 0) + (if (ofV (v.k == 0)).tr = 1 then 1 else 0) : Nat) = 1 := by
  rcases h.2 with h0 | h2
  · have : v.tr = 2 := by simp [V.tr, h0]
    simp [this, notV, h0, ofV, tr1, tr2]
  · by_cases h1 : v.n = 1
    · have : v.tr = 1 := by simp [V.tr, h1, h2]
      simp [this, notV, h2, ofV, tr0]
    · have : v.tr = 0 := by simp [V.tr, h1, h2]
      simp [this, notV, h2, ofV, tr0, tr1]
theorem toDs_appG (bl : Nat → Blk) : ∀ (l : List D) (r : List AV), toDs bl (l.map AV.d ++ r) = match toDs bl r with
    | some (x, y) => some (l ++ x, y)
    | none => none
  | [], r => by cases h : toDs bl r <;> simp [h]
  | d :: l, r => by
    rw [List.map_cons, List.cons_append, toDs, toDs_appG bl l r]
    cases toDs bl r <;> rfl
theorem gb5 : gb 5 = 14060 := by decide
theorem gb4 : gb 4 = 2810 := by decide
def deF (L : List Int) (es : List Ex) (row : List V) (p : Nat × Nat) : St :=
  { s := mkS [(6, .d (.sl (row.map V.c))), (7, .d (.int .i64 p.2)), (8, .d (.sl (es.map Ex.c))), (9, .d (.int .i64 p.1))], b := mkB [] }
def cnt1 (es : List Ex) (row : List V) : Nat → Nat
  | 0 => 0
  | i + 1 => cnt1 es row i + (match es[i]? with | some e => if (evalV e row).tr = 1 then 1 else 0 | none => 0)

theorem expression_decides (L : List Int) : Cf Eo 8 [.d (.sl (ints L))] [] (.d (.bool true)) [] := by
  refine cf_intro mixo (fn := Tryd.f8) (by kernel_rfl) rfl (by kernel_rfl) (by decide) (by simp) ?_
  have hn := nextV_in L 0 (n := 4) (by omega)
  have htl := typesG_len L 1 (1 + nextV L 0 4).toNat
  have hty := up (t_types L 0 (by omega) 4 (by omega))
  obtain ⟨ts, hts⟩ : ∃ ts, ts = typesG L (0 + 1) (1 + nextV L 0 4).toNat := ⟨_, rfl⟩
  obtain ⟨i1, hi1⟩ : ∃ i1, i1 = 0 + 1 + (1 + nextV L 0 4).toNat := ⟨_, rfl⟩
  have hi1b : i1 ≤ 5 := by omega
  have htsl : ts.length ≤ 1000 := by rw [hts, typesG_len]; omega
  rw [← hts, ← hi1] at hty
  have g5 := gb5
  obtain ⟨hle, hex⟩ := t_expr L ts htsl 5 (by omega) 2 i1 (by omega)
  have hw := expr_w L ts 5 2 i1 (by omega) (by omega)
  have hrow := up (t_row L (exprG L ts 5 2 i1).2 (by omega) ts htsl)
  have hok := rowG_ok L ts (exprG L ts 5 2 i1).2
  have hrl := rowG_len L (exprG L ts 5 2 i1).2 ts
  generalize exprG L ts 5 2 i1 = ex at *
  obtain ⟨e, i2⟩ := ex
  generalize rowG L i2 ts = row at *
  simp only at *
  have hex := up hex
  simp [ints]
  (repeat' (first | contradiction | exact .of (by kernel_rfl) | refine And.intro ?_ ?_ | intro _ | (refine agrd_cases (fun h => ?_) (fun h => ?_) <;> (have h' := h; (try simp at h'); simp [h, h']))))
  refine acallT_hand [12] hty (by simp) (by simp) (by simp) (by simp [tapB]) (by simp) ?_
  simp [tapB]
  (repeat' (first | contradiction | exact .of (by kernel_rfl) | refine And.intro ?_ ?_ | intro _ | (refine agrd_cases (fun h => ?_) (fun h => ?_) <;> (have h' := h; (try simp at h'); simp [h, h']))))
  refine acallT_hand [12] hex (by simp) (by simp) (by simp) (by simp [tapB]) (by simp) ?_
  simp [tapB, Ex.a, Ex.ctake, Ex.clen]
  (repeat' (first | contradiction | exact .of (by kernel_rfl) | refine And.intro ?_ ?_ | intro _ | (refine agrd_cases (fun h => ?_) (fun h => ?_) <;> (have h' := h; (try simp at h'); simp [h, h']))))
  refine acallT_hand [12] hrow (by simp) (by simp) (by simp) (by simp [tapB]) (by simp) ?_
  simp [tapB, Ex.a, Ex.ctake, Ex.clen, Ex.ctake', take6, drop6, toDs_appG]
  (repeat' (first | contradiction | exact .of (by kernel_rfl) | refine And.intro ?_ ?_ | intro _ | (refine agrd_cases (fun h => ?_) (fun h => ?_) <;> (have h' := h; (try simp at h'); simp [h, h']))))
  have hfew := w_few hw
  have e0 := eval_cf row (by omega) (SizeOf.sizeOf e + 1) e (by omega) 0 (hfew 0 (by omega))
  have f1 : (Ex.mk 24 0 0 [] 0 [e]).few 0 = true := by simp [Ex.few, fewAll, hfew 1 (by omega)]
  have f2 : (Ex.mk 21 0 0 [] 0 [e]).few 0 = true := by simp [Ex.few, fewAll, hfew 1 (by omega)]
  have e1 := eval_cf row (by omega) _ (.mk 24 0 0 [] 0 [e]) (Nat.lt_succ_self _) 0 f1
  have e2 := eval_cf row (by omega) _ (.mk 21 0 0 [] 0 [e]) (Nat.lt_succ_self _) 0 f2
  have c1 : cntd 24 1 = true := by decide
  have c2 : cntd 21 1 = true := by decide
  have v1 : evalV (.mk 24 0 0 [] 0 [e]) row = notV (evalV e row) := by simp [evalV, c1, evalAll, applyV, at0]
  have v2 : evalV (.mk 21 0 0 [] 0 [e]) row = ofV ((evalV e row).k == 0) := by simp [evalV, c2, evalAll, applyV, at0]
  have hone := decides_one (w_val hok hw)
  rw [← v1, ← v2] at hone
  obtain ⟨es, hes⟩ : ∃ es : List Ex, es = [e, .mk 24 0 0 [] 0 [e], .mk 21 0 0 [] 0 [e]] := ⟨_, rfl⟩
  have hcf : ∀ i : Nat, i < 3 → ∃ x, es[i]? = some x ∧ Cf Eo 33 [x.a, .d (.sl (row.map V.c))] [] (evalV x row).a [] := by
    intro i hi
    match i, hi with
    | 0, _ => exact ⟨e, by rw [hes]; rfl, e0⟩
    | 1, _ => exact ⟨_, by rw [hes]; rfl, e1⟩
    | 2, _ => exact ⟨_, by rw [hes]; rfl, e2⟩
  have hcount : cnt1 es row 3 = 1 := by
    rw [hes]
    simp only [cnt1, List.getElem?_cons_zero, List.getElem?_cons_succ]
    omega
  have hlen : es.length = 3 := by rw [hes]; rfl
  have hcle : ∀ i, cnt1 es row i ≤ i := by
    intro i
    induction i with
    | zero => exact Nat.le_refl _
    | succ i ih =>
      simp only [cnt1]
      split
      · split <;> omega
      · omega
  refine aloopT mixo (by decide) (fun i : Nat => deF L es row (i, cnt1 es row i)) (fun i : Nat => i ≤ 3) (fun i => 3 - i) 0 (by simp) (sub_mk [(6, _), (7, _), (8, _), (9, _)] [] .nil (by simp [renOf, hes, Ex.c, kidsC, cnt1])) ?_
  clear hes
  intro i hi
  by_cases hlt : i < 3
  · obtain ⟨x, hx, hxc⟩ := hcf i hlt
    have hlt' : (i : Int) < 3 := by omega
    obtain ⟨hxl, hxe⟩ := List.getElem?_eq_some_iff.1 hx
    have hc := hcle i
    have hs : cnt1 es row (i + 1) = cnt1 es row i + if (evalV x row).tr = 1 then 1 else 0 := by simp only [cnt1, hx]
    simp [deF, hlen, hlt, hlt', hx, Ex.clen, Ex.ctake]
    (repeat' (first | contradiction | exact .of (by kernel_rfl) | refine And.intro ?_ ?_ | intro _ | (refine agrd_cases (fun h => ?_) (fun h => ?_) <;> (have h' := h; (try simp at h'); simp [h, h']))))
    refine acallT_plain hxc (by simp [Ex.a, hxe]) ?_
    simp [V.a]
    refine acallT_plain (up (r_truth (evalV x row))) (by simp [V.a]) ?_
    by_cases h1 : (evalV x row).tr = 1
    · simp [h1]
      (repeat' (first | contradiction | exact .of (by kernel_rfl) | refine And.intro ?_ ?_ | intro _ | (refine agrd_cases (fun h => ?_) (fun h => ?_) <;> (have h' := h; (try simp at h'); simp [h, h']))))
      refine ⟨i + 1, hlt, ?_, ?_⟩
      · refine sub_mk [(6, _), (7, _), (8, _), (9, _)] [] .nil ?_
        simp [hs, h1]
        exact ⟨wrap_in (by omega) (by omega), wrap_in (by omega) (by omega)⟩
      · simp; omega
    · simp [h1]
      (repeat' (first | contradiction | exact .of (by kernel_rfl) | refine And.intro ?_ ?_ | intro _ | (refine agrd_cases (fun h => ?_) (fun h => ?_) <;> (have h' := h; (try simp at h'); simp [h, h']))))
      refine ⟨i + 1, hlt, ?_, ?_⟩
      · refine sub_mk [(6, _), (7, _), (8, _), (9, _)] [] .nil ?_
        simp [hs, h1]
        exact wrap_in (by omega) (by omega)
      · simp; omega
  · have h3 : i = 3 := by omega
    subst h3
    simp [deF, hlen, hcount]
    (repeat' (first | contradiction | exact .of (by kernel_rfl) | refine And.intro ?_ ?_ | intro _ | (refine agrd_cases (fun h => ?_) (fun h => ?_) <;> (have h' := h; (try simp at h'); simp [h, h']))))
end Go.Proofs.Tryd
