/- The law of shifts. -/
import Derived.Test.YtnbbnkmaoaogeaaDoorWty
import Derived.Test.YtnbbnkmaoaogeaaDoorRev
import Derived.Test.YtnbbnkmaoaogeaaDoorShf
set_option linter.all false
namespace Go.Proofs.Tryd
open Go.Ab
set_option maxRecDepth 100000
set_option maxHeartbeats 16000000

theorem shift_con (v : V) (k : Int) (n : Int) : (constOf v k).shift n = constOf v k := by
  unfold constOf
  split
  · simp [Ex.shift, shiftAll]
  · split
    · simp [Ex.shift, shiftAll]
    · split
      · simp [Ex.shift, shiftAll]
      · simp [Ex.shift, shiftAll]
theorem evalAll_shift {ks : List Ex} {n : Int} {row row' : List V} (h : ∀ e ∈ ks, evalV (e.shift n) row' = evalV e row) : evalAll (shiftAll ks n) row' = evalAll ks row := by
  rw [shiftAll_map, evalAll_map, evalAll_map, List.map_map]
  exact List.map_congr_left h
theorem eval_node {o : Int} {ks : List Ex} {n : Int} {row row' : List V} (h5 : o ≠ 5) (h : ∀ e ∈ ks, evalV (e.shift n) row' = evalV e row) :
    evalV ((Ex.mk o 0 0 [] 0 ks).shift n) row' = evalV (.mk o 0 0 [] 0 ks) row := by
  have hl : (shiftAll ks n).length = ks.length := by rw [shiftAll_map, List.length_map]
  rw [Ex.shift, if_neg h5, evalV, evalV, hl, evalAll_shift h]
  simp [h5]
theorem w_shift {ts : List Int} {row before : List V} (hr : row.length = ts.length) (hb : before.length ≤ 1000000) (hr2 : row.length ≤ 1000000) {d : Nat} {k : Int} {e : Ex} (h : W ts d k e) : evalV (e.shift before.length) (before ++ row) = evalV e row := by
  induction h with
  | col d j k hj =>
    obtain ⟨hlt, _⟩ := List.getElem?_eq_some_iff.1 hj
    have c5 : cntd 5 0 = true := by decide
    have hw := wrap_in (n := (j : Int) + before.length) (by omega) (by omega)
    have hg : (before ++ row)[j + before.length]? = row[j]? := by
      rw [List.getElem?_append_right (by omega), Nat.add_sub_cancel]
    have ht : ((j : Int) + before.length).toNat = j + before.length := by omega
    simp [Ex.shift, shiftAll, evalV, c5, hw, ht, hg]
    have h1 : (0 : Int) ≤ (j : Int) + before.length ∧ (j : Int) + before.length < (before.length : Int) + row.length := by omega
    have h2 : j < row.length := by omega
    simp [h1, h2]
  | con d v k hv hk =>
    rw [shift_con]
    unfold constOf
    split
    · simp [evalV]
    · split
      · simp [evalV]
      · split
        · simp [evalV]
        · simp [evalV, evalAll]
  | cas d k c a b _ _ _ ic ia ib => exact eval_node (by decide) (by simp [ic, ia, ib])
  | coa d k a b _ _ ia ib => exact eval_node (by decide) (by simp [ia, ib])
  | ari d op a b h1 h2 _ _ ia ib => exact eval_node (by omega) (by simp [ia, ib])
  | neg d a _ ia => exact eval_node (by decide) (by simp [ia])
  | len d a _ ia => exact eval_node (by decide) (by simp [ia])
  | cat d a b _ _ ia ib => exact eval_node (by decide) (by simp [ia, ib])
  | log d op a b h1 h2 _ _ ia ib => exact eval_node (by omega) (by simp [ia, ib])
  | one d op a h1 h2 _ ia => exact eval_node (by omega) (by simp [ia])
  | nul d x a _ ia => exact eval_node (by decide) (by simp [ia])
  | inn d x a b ks _ _ _ hl ia ib ik => exact eval_node (by decide) (fun e he => by
      rcases List.mem_cons.1 he with rfl | he
      · exact ia
      · rcases List.mem_cons.1 he with rfl | he
        · exact ib
        · exact ik e he)
  | cmp d op x a b h1 h2 _ _ ia ib => exact eval_node (by omega) (by simp [ia, ib])
mutual
theorem few_shift : ∀ (e : Ex) (n : Int) (q : Nat), (e.shift n).few q = e.few q
  | .mk o c n t g ks, d, q => by
    simp only [Ex.shift, Ex.few, fewAll_shift ks d (q + 1)]
    rw [shiftAll_map, List.length_map]
theorem fewAll_shift : ∀ (l : List Ex) (n : Int) (q : Nat), fewAll (shiftAll l n) q = fewAll l q
  | [], _, _ => rfl
  | e :: es, n, q => by simp only [shiftAll, fewAll, few_shift e n q, fewAll_shift es n q]
end
theorem gb4' : gb 4 = 2810 := by decide
theorem expression_shifts (L : List Int) (before : List V) : Cf Eo 9 [.d (.sl (ints L)), .d (.sl (before.map V.c))] [] (.d (.bool true)) [] := by
  refine cf_intro mixo (fn := Tryd.f9) (by kernel_rfl) rfl (by kernel_rfl) (by decide) (by simp) ?_
  by_cases hb : 20 < before.length
  · have hb' : (20 : Int) < before.length := by omega
    simp [ints, hb, hb']
    (repeat' (first | contradiction | exact .of (by kernel_rfl) | refine And.intro ?_ ?_ | intro _ | (refine agrd_cases (fun h => ?_) (fun h => ?_) <;> (have h' := h; (try simp at h'); simp [h, h', hb, hb']))))
  have hb' : ¬ (20 : Int) < before.length := by omega
  have hn := nextV_in L 0 (n := 4) (by omega)
  have hty := up (t_types L 0 (by omega) 4 (by omega))
  obtain ⟨ts, hts⟩ : ∃ ts, ts = typesG L (0 + 1) (1 + nextV L 0 4).toNat := ⟨_, rfl⟩
  obtain ⟨i1, hi1⟩ : ∃ i1, i1 = 0 + 1 + (1 + nextV L 0 4).toNat := ⟨_, rfl⟩
  have hi1b : i1 ≤ 5 := by omega
  have htl : ts.length ≤ 4 := by rw [hts, typesG_len]; omega
  have htsl : ts.length ≤ 1000 := by omega
  rw [← hts, ← hi1] at hty
  have hnk := nextV_in L i1 (n := 3) (by omega)
  have htk := up (t_next L i1 (by omega) 3 (by omega))
  rw [show nextI i1 3 = i1 + 1 from rfl] at htk
  obtain ⟨k, hk⟩ : ∃ k, k = 1 + nextV L i1 3 := ⟨_, rfl⟩
  have hwk := wrap_in (n := 1 + nextV L i1 3) (by omega) (by omega)
  rw [← hk] at hwk
  have g4 := gb4'
  obtain ⟨hle, hex⟩ := t_expr L ts htsl 4 (by omega) k (i1 + 1) (by omega)
  have hw := expr_w L ts 4 k (i1 + 1) (by omega) (by omega)
  have hrow := up (t_row L (exprG L ts 4 k (i1 + 1)).2 (by omega) ts htsl)
  have hrl := rowG_len L (exprG L ts 4 k (i1 + 1)).2 ts
  generalize exprG L ts 4 k (i1 + 1) = ex at *
  obtain ⟨e, i2⟩ := ex
  generalize rowG L i2 ts = row at *
  simp only at *
  have hex := up hex
  simp [ints, hb, hb']
  (repeat' (first | contradiction | exact .of (by kernel_rfl) | refine And.intro ?_ ?_ | intro _ | (refine agrd_cases (fun h => ?_) (fun h => ?_) <;> (have h' := h; (try simp at h'); simp [h, h', hb, hb']))))
  refine acallT_hand [15] hty (by simp) (by simp) (by simp) (by simp [tapB]) (by simp) ?_
  simp [tapB]
  (repeat' (first | contradiction | exact .of (by kernel_rfl) | refine And.intro ?_ ?_ | intro _ | (refine agrd_cases (fun h => ?_) (fun h => ?_) <;> (have h' := h; (try simp at h'); simp [h, h']))))
  refine acallT_hand [15] htk (by simp) (by simp) (by simp) (by simp [tapB]) (by simp) ?_
  simp [tapB, ← hk, hwk]
  (repeat' (first | contradiction | exact .of (by kernel_rfl) | refine And.intro ?_ ?_ | intro _ | (refine agrd_cases (fun h => ?_) (fun h => ?_) <;> (have h' := h; (try simp at h'); simp [h, h']))))
  refine acallT_hand [15] hex (by simp) (by simp) (by simp) (by simp [tapB]) (by simp) ?_
  simp [tapB, Ex.a, Ex.ctake, Ex.clen]
  (repeat' (first | contradiction | exact .of (by kernel_rfl) | refine And.intro ?_ ?_ | intro _ | (refine agrd_cases (fun h => ?_) (fun h => ?_) <;> (have h' := h; (try simp at h'); simp [h, h']))))
  refine acallT_hand [15] hrow (by simp) (by simp) (by simp) (by simp [tapB]) (by simp) ?_
  have z1 : before.length * 32 ≤ 140737488355328 := by omega
  have z2 : before.length ≤ 9223372036854775807 := by omega
  have z3 : (before.length + row.length) * 32 ≤ 140737488355328 := by omega
  have z4 : before.length + row.length ≤ 9223372036854775807 := by omega
  have hfew := w_few hw 0 (by omega)
  have csh := up (shift_cf (SizeOf.sizeOf e + 1) e (by omega) 0 hfew before.length)
  have hfs : (e.shift before.length).few 0 = true := by rw [few_shift]; exact hfew
  have ces := eval_cf (before ++ row) (by rw [List.length_append]; omega) _ (e.shift before.length) (Nat.lt_succ_self _) 0 hfs
  have ce := eval_cf row (by omega) _ e (Nat.lt_succ_self _) 0 hfew
  have cr := up (reval_cf row (by omega) _ e (Nat.lt_succ_self _) 0 hfew)
  have hsv := w_shift (before := before) hrl (by omega) (by omega) hw
  rw [hsv] at ces
  simp [tapB, V.clen, Ex.clen, Ex.ctake, z1, z2, z3, z4]
  (repeat' (first | contradiction | exact .of (by kernel_rfl) | refine And.intro ?_ ?_ | intro _ | (refine agrd_cases (fun h => ?_) (fun h => ?_) <;> (have h' := h; (try simp at h'); simp [h, h']))))
  refine acallT_plain csh (by simp [Ex.a]) ?_
  simp [Ex.a]
  have htake : List.take (before.length + row.length) (List.map V.c before ++ List.map V.c row) = List.map V.c before ++ List.map V.c row := List.take_of_length_le (by simp)
  refine acallT_plain ces (by simp [Ex.a, htake]) ?_
  simp [V.a, Ex.clen, Ex.ctake]
  refine acallT_plain cr (by simp [Ex.a]) ?_
  simp [V.a, Ex.clen, Ex.ctake]
  refine acallT_plain ce (by simp [Ex.a]) ?_
  simp [V.a, Ex.clen, Ex.ctake]
  refine acallT_plain cr (by simp [Ex.a]) ?_
  simp [V.a]
  (repeat' (first | contradiction | exact .of (by kernel_rfl) | refine And.intro ?_ ?_ | intro _ | (refine agrd_cases (fun h => ?_) (fun h => ?_) <;> (have h' := h; (try simp at h'); simp [h, h']))))
end Go.Proofs.Tryd
