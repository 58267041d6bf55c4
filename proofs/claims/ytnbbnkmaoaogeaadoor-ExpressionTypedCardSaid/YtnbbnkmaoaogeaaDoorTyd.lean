/- The law of types. -/
import Derived.Test.YtnbbnkmaoaogeaaDoorTyp
import Derived.Test.YtnbbnkmaoaogeaaDoorRev
set_option linter.all false
namespace Go.Proofs.Tryd
open Go.Ab
set_option maxRecDepth 100000
set_option maxHeartbeats 16000000

theorem e_type {ts : List Int} (hts : ts.length ≤ 1000) (hty : ∀ (j : Nat) (k : Int), ts[j]? = some k → 1 ≤ k ∧ k ≤ 3) {d : Nat} (hd : d ≤ 20) {k : Int} {e : Ex} (h : W ts d k e) :
    Cf Eo 37 [.d (.sl (ints ts)), e.a] [] (.tup [.d (.int .i64 (if 200 < e.size then 0 else k)), .d (.int .i64 (if 200 < e.size then 8 else 0))]) [] := by
  refine cf_intro mixo (fn := Tryd.f37) (by kernel_rfl) rfl (by kernel_rfl) (by decide) (by simp) ?_
  have hfew := w_few h 0 (by omega)
  have hdep := w_dep h
  have hs := up (e_size (SizeOf.sizeOf e + 1) e (by omega) 0 hfew)
  have hp := up (e_depth (SizeOf.sizeOf e + 1) e (by omega) 0 hfew)
  have ht := w_typ hts hty h
  simp [Ex.a, Ex.clen, Ex.ctake]
  (repeat' (first | contradiction | exact .of (by kernel_rfl) | refine And.intro ?_ ?_ | intro _ | (refine agrd_cases (fun h => ?_) (fun h => ?_) <;> (have h' := h; (try simp at h'); simp [h, h']))))
  refine acallT_plain hs (by simp [Ex.a]) ?_
  by_cases h2 : 200 < e.size
  · simp [h2]
    (repeat' (first | contradiction | exact .of (by kernel_rfl) | refine And.intro ?_ ?_ | intro _ | (refine agrd_cases (fun h => ?_) (fun h => ?_) <;> (have h' := h; (try simp at h'); simp [h, h']))))
  · have hd24 : ¬ (24 : Int) < e.dep := by omega
    simp [h2, Ex.clen, Ex.ctake]
    (repeat' (first | contradiction | exact .of (by kernel_rfl) | refine And.intro ?_ ?_ | intro _ | (refine agrd_cases (fun h => ?_) (fun h => ?_) <;> (have h' := h; (try simp at h'); simp [h, h']))))
    refine acallT_plain hp (by simp [Ex.a]) ?_
    simp [hd24, Ex.clen, Ex.ctake]
    (repeat' (first | contradiction | exact .of (by kernel_rfl) | refine And.intro ?_ ?_ | intro _ | (refine agrd_cases (fun h => ?_) (fun h => ?_) <;> (have h' := h; (try simp at h'); simp [h, h']))))
    refine acallT_plain ht (by simp [Ex.a]) ?_
    simp [h2]
    (repeat' (first | contradiction | exact .of (by kernel_rfl) | refine And.intro ?_ ?_ | intro _ | (refine agrd_cases (fun h => ?_) (fun h => ?_) <;> (have h' := h; (try simp at h'); simp [h, h']))))
theorem gb5' : gb 5 = 14060 := by decide
theorem typesG_rng (L : List Int) (i : Nat) : ∀ (n j : Nat) (k : Int), (typesG L i n)[j]? = some k → 1 ≤ k ∧ k ≤ 3
  | 0, j, k, h => by simp [typesG] at h
  | n + 1, j, k, h => by
    rw [typesG] at h
    rcases Nat.lt_or_ge j (typesG L i n).length with c | c
    · rw [List.getElem?_append_left c] at h
      exact typesG_rng L i n j k h
    · rw [List.getElem?_append_right c] at h
      have hx := nextV_in L (i + n) (n := 3) (by omega)
      have : k = 1 + nextV L (i + n) 3 := by
        have := List.mem_of_getElem? h
        simpa using this
      omega
theorem fits_few : ∀ (m : Nat) (e : Ex), SizeOf.sizeOf e < m → ∀ q, e.few q = true → e.fits
  | 0, _, h, _, _ => absurd h (by omega)
  | m + 1, .mk o c n t g ks, hm, q, hq => by
    obtain ⟨hk, ht, hfew⟩ := few_kids hq
    rw [Ex.fits]
    refine ⟨by omega, ?_⟩
    have : ∀ l : List Ex, (∀ e ∈ l, e.fits) → fitsAll l := by
      intro l
      induction l with
      | nil => intro _; trivial
      | cons e es ih => intro h; exact ⟨h e List.mem_cons_self, ih fun x hx => h x (List.mem_cons_of_mem _ hx)⟩
    exact this ks fun e he => fits_few m e (by have := Ex.kid_lt (e := .mk o c n t g ks) (k := e) he; omega) (q + 1) (hfew e he)

theorem expression_typed (L : List Int) : Cf Eo 10 [.d (.sl (ints L))] [] (.d (.bool true)) [] := by
  refine cf_intro mixo (fn := Tryd.f10) (by kernel_rfl) rfl (by kernel_rfl) (by decide) (by simp) ?_
  have hn := nextV_in L 0 (n := 5) (by omega)
  have hty := up (t_types L 0 (by omega) 5 (by omega))
  have hrng := typesG_rng L (0 + 1) (1 + nextV L 0 5).toNat
  obtain ⟨ts, hts⟩ : ∃ ts, ts = typesG L (0 + 1) (1 + nextV L 0 5).toNat := ⟨_, rfl⟩
  obtain ⟨i1, hi1⟩ : ∃ i1, i1 = 0 + 1 + (1 + nextV L 0 5).toNat := ⟨_, rfl⟩
  have hi1b : i1 ≤ 6 := by omega
  have htl : ts.length ≤ 5 := by rw [hts, typesG_len]; omega
  have htsl : ts.length ≤ 1000 := by omega
  rw [← hts, ← hi1] at hty
  rw [← hts] at hrng
  have hnk := nextV_in L i1 (n := 3) (by omega)
  have htk := up (t_next L i1 (by omega) 3 (by omega))
  rw [show nextI i1 3 = i1 + 1 from rfl] at htk
  obtain ⟨k, hk⟩ : ∃ k, k = 1 + nextV L i1 3 := ⟨_, rfl⟩
  have hwk := wrap_in (n := 1 + nextV L i1 3) (by omega) (by omega)
  rw [← hk] at hwk
  have g5 := gb5'
  obtain ⟨hle, hex⟩ := t_expr L ts htsl 5 (by omega) k (i1 + 1) (by omega)
  have hw := expr_w L ts 5 k (i1 + 1) (by omega) (by omega)
  have hrow := up (t_row L (exprG L ts 5 k (i1 + 1)).2 (by omega) ts htsl)
  have hrl := rowG_len L (exprG L ts 5 k (i1 + 1)).2 ts
  have hok := rowG_ok L ts (exprG L ts 5 k (i1 + 1)).2
  generalize exprG L ts 5 k (i1 + 1) = ex at *
  obtain ⟨e, i2⟩ := ex
  generalize rowG L i2 ts = row at *
  simp only at *
  have hex := up hex
  have hfew := w_few hw 0 (by omega)
  have cty := e_type htsl hrng (by omega) hw
  have csz := up (size_cf (SizeOf.sizeOf e + 1) e (by omega) (fits_few _ e (Nat.lt_succ_self _) 0 hfew))
  have ce := eval_cf row (by omega) _ e (Nat.lt_succ_self _) 0 hfew
  have cr := up (reval_cf row (by omega) _ e (Nat.lt_succ_self _) 0 hfew)
  have hv := w_val hok hw
  have cvd := up (r_valid (evalV e row))
  rw [hv.1] at cvd
  simp [ints]
  (repeat' (first | contradiction | exact .of (by kernel_rfl) | refine And.intro ?_ ?_ | intro _ | (refine agrd_cases (fun h => ?_) (fun h => ?_) <;> (have h' := h; (try simp at h'); simp [h, h']))))
  refine acallT_hand [13] hty (by simp) (by simp) (by simp) (by simp [tapB]) (by simp) ?_
  simp [tapB]
  (repeat' (first | contradiction | exact .of (by kernel_rfl) | refine And.intro ?_ ?_ | intro _ | (refine agrd_cases (fun h => ?_) (fun h => ?_) <;> (have h' := h; (try simp at h'); simp [h, h']))))
  refine acallT_hand [13] htk (by simp) (by simp) (by simp) (by simp [tapB]) (by simp) ?_
  simp [tapB, ← hk, hwk]
  (repeat' (first | contradiction | exact .of (by kernel_rfl) | refine And.intro ?_ ?_ | intro _ | (refine agrd_cases (fun h => ?_) (fun h => ?_) <;> (have h' := h; (try simp at h'); simp [h, h']))))
  refine acallT_hand [13] hex (by simp) (by simp) (by simp) (by simp [tapB]) (by simp) ?_
  simp [tapB, Ex.a, Ex.ctake, Ex.clen]
  (repeat' (first | contradiction | exact .of (by kernel_rfl) | refine And.intro ?_ ?_ | intro _ | (refine agrd_cases (fun h => ?_) (fun h => ?_) <;> (have h' := h; (try simp at h'); simp [h, h']))))
  refine acallT_hand [13] hrow (by simp) (by simp) (by simp) (by simp [tapB]) (by simp) ?_
  simp [tapB, Ex.clen, Ex.ctake]
  (repeat' (first | contradiction | exact .of (by kernel_rfl) | refine And.intro ?_ ?_ | intro _ | (refine agrd_cases (fun h => ?_) (fun h => ?_) <;> (have h' := h; (try simp at h'); simp [h, h']))))
  refine acallT_plain cty (by simp [Ex.a]) ?_
  simp [Ex.clen, Ex.ctake]
  (repeat' (first | contradiction | exact .of (by kernel_rfl) | refine And.intro ?_ ?_ | intro _ | (refine agrd_cases (fun h => ?_) (fun h => ?_) <;> (have h' := h; (try simp at h'); simp [h, h']))))
  refine acallT_plain csz (by simp [Ex.a]) ?_
  by_cases h2 : 200 < e.size
  · simp [h2]
    (repeat' (first | contradiction | exact .of (by kernel_rfl) | refine And.intro ?_ ?_ | intro _ | (refine agrd_cases (fun h => ?_) (fun h => ?_) <;> (have h' := h; (try simp at h'); simp [h, h']))))
  · simp [h2, Ex.clen, Ex.ctake]
    (repeat' (first | contradiction | exact .of (by kernel_rfl) | refine And.intro ?_ ?_ | intro _ | (refine agrd_cases (fun h => ?_) (fun h => ?_) <;> (have h' := h; (try simp at h'); simp [h, h']))))
    refine acallT_plain ce (by simp [Ex.a]) ?_
    simp [V.a, Ex.clen, Ex.ctake]
    (repeat' (first | contradiction | exact .of (by kernel_rfl) | refine And.intro ?_ ?_ | intro _ | (refine agrd_cases (fun h => ?_) (fun h => ?_) <;> (have h' := h; (try simp at h'); simp [h, h']))))
    refine acallT_plain cr (by simp [Ex.a]) ?_
    simp [V.a]
    refine acallT_plain cvd (by simp [V.a]) ?_
    simp [V.a]
    have hkk := hv.2
    by_cases h0 : (evalV e row).k = 0
    · simp [h0]
      (repeat' (first | contradiction | exact .of (by kernel_rfl) | refine And.intro ?_ ?_ | intro _ | (refine agrd_cases (fun h => ?_) (fun h => ?_) <;> (have h' := h; (try simp at h'); simp [h, h', h0]))))
    · have h1 : (evalV e row).k = k := by omega
      simp [h0, h1]
      (repeat' (first | contradiction | exact .of (by kernel_rfl) | refine And.intro ?_ ?_ | intro _ | (refine agrd_cases (fun h => ?_) (fun h => ?_) <;> (have h' := h; (try simp at h'); simp [h, h', h0, h1]))))
      all_goals simp_all
end Go.Proofs.Tryd
