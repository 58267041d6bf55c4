/- ExpressionTexts. -/
import Derived.Test.YtnbbnkmaoaogeaaDoorTxr
import Derived.Test.YtnbbnkmaoaogeaaDoorCst
set_option linter.all false
namespace Go.Proofs.Tryd
open Go.Ab
set_option maxRecDepth 100000
set_option maxHeartbeats 4000000

theorem e_text : ∀ (m : Nat) (e : Ex), SizeOf.sizeOf e < m → ∀ q : Nat, e.few q = true → e.fine → 64 * e.nodes ≤ 1099511627776 → Cf Et 46 [e.a] [] (.d (.str e.text)) []
  | 0, _, h, _, _, _, _ => absurd h (by omega)
  | m + 1, .mk o c n t g ks, hm, q, hq, hf, hn => by
    obtain ⟨hk, ht, hfew⟩ := few_kids hq
    have hf' := hf
    rw [Ex.fine] at hf'
    rw [Ex.nodes] at hn
    have hj := join_len ks fun e he => text_len _ e (Nat.lt_succ_self _) (fineAll_get ks hf'.2 e he)
    exact e_text_step o c n g t ks hk hf'.1 (eval_cf [] (by simp) _ _ (Nat.lt_succ_self _) q hq) (fun e he => by
      have := nodesAll_get ks e he
      exact e_text m e (by have := Ex.kid_lt (e := .mk o c n t g ks) (k := e) he; omega) (q + 1) (hfew e he) (fineAll_get ks hf'.2 e he) (by omega)) (by omega)
theorem r_text : ∀ (m : Nat) (e : Ex), SizeOf.sizeOf e < m → ∀ q : Nat, e.few q = true → e.fine → 64 * e.nodes ≤ 1099511627776 → Cf Et 47 [e.a] [] (.d (.str e.text)) []
  | 0, _, h, _, _, _, _ => absurd h (by omega)
  | m + 1, .mk o c n t g ks, hm, q, hq, hf, hn => by
    obtain ⟨hk, ht, hfew⟩ := few_kids hq
    have hf' := hf
    rw [Ex.fine] at hf'
    rw [Ex.nodes] at hn
    have hj := join_len ks fun e he => text_len _ e (Nat.lt_succ_self _) (fineAll_get ks hf'.2 e he)
    exact r_text_step o c n g t ks hk hf'.1 (up (reval_cf [] (by simp) _ _ (Nat.lt_succ_self _) q hq)) (fun e he => by
      have := nodesAll_get ks e he
      exact r_text m e (by have := Ex.kid_lt (e := .mk o c n t g ks) (k := e) he; omega) (q + 1) (hfew e he) (fineAll_get ks hf'.2 e he) (by omega)) (by omega)
theorem e_text_leaf (o c n g : Int) (t : List UInt8) (hg : -9223372036854775808 ≤ g ∧ g ≤ 9223372036854775807) : Cf Et 46 [(Ex.mk o c n t g []).a] [] (.d (.str (Ex.text (.mk o c n t g [])))) [] :=
  e_text_step o c n g t [] (by simp) hg (eval_step [] (by simp) o c n g t [] (by simp) (fun e he => by cases he)) (fun e he => by cases he) (by simp [textAll, Lib.join_nil])
theorem r_text_leaf (o c n g : Int) (t : List UInt8) (hg : -9223372036854775808 ≤ g ∧ g ≤ 9223372036854775807) : Cf Et 47 [(Ex.mk o c n t g []).a] [] (.d (.str (Ex.text (.mk o c n t g [])))) [] :=
  r_text_step o c n g t [] (by simp) hg (up (reval_step [] (by simp) o c n g t [] (by simp) (fun e he => by cases he))) (fun e he => by cases he) (by simp [textAll, Lib.join_nil])
theorem const_leaf (v : V) (i : Int) : ∃ o c n t, constOf v i = .mk o c n t 0 [] := by
  unfold constOf
  split
  · exact ⟨_, _, _, _, rfl⟩
  · split
    · exact ⟨_, _, _, _, rfl⟩
    · split
      · exact ⟨_, _, _, _, rfl⟩
      · exact ⟨_, _, _, _, rfl⟩
theorem expression_texts (x : Ex) (v : V) (hf : x.fits) (hfine : x.fine) (hn : 64 * x.nodes ≤ 1099511627776) : Cf Et 12 [x.a, v.a] [] (.d (.bool true)) [] := by
  refine cf_intro mixt (fn := Tryd.f12) (by kernel_rfl) rfl (by kernel_rfl) (by decide) (by simp) ?_
  have hfl := up2 (few_law x hf)
  have l0 := Ex.clen x
  have k0 := Ex.ctake x
  simp [Ex.a, V.a, l0, k0]
  (repeat' (first | contradiction | exact .of (by kernel_rfl) | refine And.intro ?_ ?_ | intro _ | (refine agrd_cases (fun h => ?_) (fun h => ?_) <;> (have h' := h; (try simp at h'); first | done | simp [h, h'] | simp))))
  refine acallT_plain hfl (by simp [Ex.a]) ?_
  cases hok : x.ok
  · simp
    (repeat' (first | contradiction | exact .of (by kernel_rfl) | refine And.intro ?_ ?_ | intro _ | (refine agrd_cases (fun h => ?_) (fun h => ?_) <;> (have h' := h; (try simp at h'); first | done | simp [h, h'] | simp))))
  have hfew : x.few 0 = true := by
    simp [Ex.ok] at hok
    exact hok.1
  have h1 := e_text _ x (Nat.lt_succ_self _) 0 hfew hfine hn
  have h2 := r_text _ x (Nat.lt_succ_self _) 0 hfew hfine hn
  have c1 := up2 (e_const v 1)
  have c2 := up2 (r_const v 1)
  have h3 : Cf Et 46 [(constOf v 1).a] [] (.d (.str (constOf v 1).text)) [] := by
    obtain ⟨o, c, n, t, e⟩ := const_leaf v 1
    rw [e]
    exact e_text_leaf o c n 0 t (by omega)
  have h4 : Cf Et 47 [(constOf v 1).a] [] (.d (.str (constOf v 1).text)) [] := by
    obtain ⟨o, c, n, t, e⟩ := const_leaf v 1
    rw [e]
    exact r_text_leaf o c n 0 t (by omega)
  generalize constOf v 1 = y at *
  have l1 := Ex.clen y
  have k1 := Ex.ctake y
  simp
  (repeat' (first | contradiction | exact .of (by kernel_rfl) | refine And.intro ?_ ?_ | intro _ | (refine agrd_cases (fun h => ?_) (fun h => ?_) <;> (have h' := h; (try simp at h'); first | done | simp [h, h'] | simp))))
  refine acallT_plain c1 (by simp [V.a]) ?_
  simp [Ex.a, l0, k0, l1, k1]
  (repeat' (first | contradiction | exact .of (by kernel_rfl) | refine And.intro ?_ ?_ | intro _ | (refine agrd_cases (fun h => ?_) (fun h => ?_) <;> (have h' := h; (try simp at h'); first | done | simp [h, h'] | simp))))
  refine acallT_plain h1 (by simp [Ex.a]) ?_
  simp [l0, k0, l1, k1]
  refine acallT_plain h2 (by simp [Ex.a]) ?_
  simp [l0, k0, l1, k1]
  refine acallT_plain h3 (by simp [Ex.a]) ?_
  simp [l0, k0, l1, k1]
  refine acallT_plain c2 (by simp [V.a]) ?_
  simp [Ex.a, l0, k0, l1, k1]
  refine acallT_plain h4 (by simp [Ex.a]) ?_
  simp [l0, k0, l1, k1]
  (repeat' (first | contradiction | exact .of (by kernel_rfl) | refine And.intro ?_ ?_ | intro _ | (refine agrd_cases (fun h => ?_) (fun h => ?_) <;> (have h' := h; (try simp at h'); first | done | simp [h, h'] | simp))))
end Go.Proofs.Tryd
