/- ExpressionColumns. -/
import Derived.Test.YtnbbnkmaoaogeaaClr
import Derived.Test.YtnbbnkmaoaogeaaEsame
set_option linter.all false
namespace Go.Proofs.Try
open Go.Ab
set_option maxRecDepth 100000
set_option maxHeartbeats 4000000

theorem c_cols : ∀ (m : Nat) (e : Ex), SizeOf.sizeOf e < m → ∀ q : Nat, e.few q = true → e.nodes ≤ 1048576 → Cf En 22 [e.a] [] (.d (nums e.cols)) []
  | 0, _, h, _, _, _ => absurd h (by omega)
  | m + 1, .mk o c n t g ks, hm, q, hq, hn => by
    obtain ⟨hk, ht, hfew⟩ := few_kids hq
    rw [Ex.nodes] at hn
    have := colsAll_len ks
    exact c_cols_step o c n g t ks hk (by omega) fun e he => by
      have := nodesAll_get ks e he
      exact c_cols m e (by have := Ex.kid_lt (e := .mk o c n t g ks) (k := e) he; omega) (q + 1) (hfew e he) (by omega)
theorem r_cols : ∀ (m : Nat) (e : Ex), SizeOf.sizeOf e < m → ∀ q : Nat, e.few q = true → e.nodes ≤ 1048576 → Cf En 23 [e.a] [] (.d (nums e.rcols)) []
  | 0, _, h, _, _, _ => absurd h (by omega)
  | m + 1, .mk o c n t g ks, hm, q, hq, hn => by
    obtain ⟨hk, ht, hfew⟩ := few_kids hq
    rw [Ex.nodes] at hn
    exact r_cols_step o c n g t ks hk (by omega) fun e he => by
      have := nodesAll_get ks e he
      exact r_cols m e (by have := Ex.kid_lt (e := .mk o c n t g ks) (k := e) he; omega) (q + 1) (hfew e he) (by omega)
def smF (l : List Int) (i : Nat) : St := { s := mkS [(0, .d (nums l)), (1, .d (nums l)), (5, .d (.int .i64 i))], b := mkB [] }
theorem c_same (l : List Int) (hl : l.length ≤ 1099511627776) : Cf En 21 [.d (nums l), .d (nums l)] [] (.d (.bool true)) [] := by
  refine cf_intro mix (fn := Try.f21) (by kernel_rfl) rfl (by kernel_rfl) (by decide) (by simp) ?_
  simp [nums]
  (repeat' (first | contradiction | exact .of (by kernel_rfl) | refine And.intro ?_ ?_ | intro _ | (refine agrd_cases (fun h => ?_) (fun h => ?_) <;> (have h' := h; (try simp at h'); first | done | simp [h, h'] | simp))))
  refine aloopT mix (by decide) (smF l) (fun i : Nat => i ≤ l.length) (fun i => l.length - i) 0 (by simp) (sub_mk [(0, _), (1, _), (5, _)] [] ⟨by simp, by simp, by simp [renOf, Blk.live], by simp⟩ (by simp [renOf, nums])) ?_
  intro i hi
  by_cases hlt : i < l.length
  · have hgi : l[i]? = some l[i] := List.getElem?_eq_getElem hlt
    have hlt2 : (i : Int) < l.length := by omega
    simp [smF, nums, hlt, hlt2, hgi]
    (repeat' (first | contradiction | exact .of (by kernel_rfl) | refine And.intro ?_ ?_ | intro _ | (refine agrd_cases (fun h => ?_) (fun h => ?_) <;> (have h' := h; (try simp at h'); first | done | simp [h, h'] | simp))))
    refine ⟨i + 1, by omega, ?_, ?_⟩
    · refine sub_mk [(0, _), (1, _), (5, _)] [] ⟨by simp, by simp, by simp [renOf, Blk.live], by simp⟩ ?_
      simp [renOf, nums]
      exact wrap_in (by omega) (by omega)
    · simp; omega
  · have hie : i = l.length := by omega
    subst hie
    simp [smF, nums]
    (repeat' (first | contradiction | exact .of (by kernel_rfl) | refine And.intro ?_ ?_ | intro _ | (refine agrd_cases (fun h => ?_) (fun h => ?_) <;> (have h' := h; (try simp at h'); first | done | simp [h, h'] | simp))))
mutual
theorem few_shift : ∀ (e : Ex) (d : Int) (q : Nat), (e.shift d).few q = e.few q
  | .mk o c n t g ks, d, q => by
    rw [Ex.shift, Ex.few, Ex.few, fewAll_shift ks d (q + 1), shiftAll_map, List.length_map]
theorem fewAll_shift : ∀ (l : List Ex) (d : Int) (q : Nat), fewAll (shiftAll l d) q = fewAll l q
  | [], d, q => by rw [shiftAll]
  | e :: es, d, q => by rw [shiftAll, fewAll, fewAll, few_shift e d q, fewAll_shift es d q]
end
mutual
theorem fits_shift : ∀ (e : Ex) (d : Int), e.fits → (e.shift d).fits
  | .mk o c n t g ks, d, h => by
    rw [Ex.fits] at h
    rw [Ex.shift, Ex.fits, shiftAll_map, List.length_map, ← shiftAll_map]
    exact ⟨h.1, fitsAll_shift ks d h.2⟩
theorem fitsAll_shift : ∀ (l : List Ex) (d : Int), fitsAll l → fitsAll (shiftAll l d)
  | [], d, h => by rw [shiftAll]; exact h
  | e :: es, d, h => by
    rw [fitsAll] at h
    rw [shiftAll, fitsAll]
    exact ⟨fits_shift e d h.1, fitsAll_shift es d h.2⟩
end
mutual
theorem nodes_shift : ∀ (e : Ex) (d : Int), (e.shift d).nodes = e.nodes
  | .mk o c n t g ks, d => by rw [Ex.shift, Ex.nodes, Ex.nodes, nodesAll_shift ks d]
theorem nodesAll_shift : ∀ (l : List Ex) (d : Int), nodesAll (shiftAll l d) = nodesAll l
  | [], d => by rw [shiftAll]
  | e :: es, d => by rw [shiftAll, nodesAll, nodesAll, nodes_shift e d, nodesAll_shift es d]
end
theorem wrap_eq (z : Int) : IntKind.i64.wrap z = (z + 9223372036854775808) % 18446744073709551616 - 9223372036854775808 := by
  have h : IntKind.i64.wrap z = if z % 18446744073709551616 ≥ 9223372036854775808 then z % 18446744073709551616 - 18446744073709551616 else z % 18446744073709551616 := by
    simp [IntKind.wrap, IntKind.signed, IntKind.bits]
  rw [h]
  split <;> omega
theorem wrap_back {g d : Int} (h0 : -9223372036854775808 ≤ g) (h1 : g ≤ 9223372036854775807) : IntKind.i64.wrap (IntKind.i64.wrap (g + d) + -d) = g := by
  rw [wrap_eq, wrap_eq]
  omega
mutual
theorem shift_back : ∀ (e : Ex) (d : Int), e.rng → (e.shift d).shift (-d) = e
  | .mk o c n t g ks, d, h => by
    rw [Ex.rng] at h
    rw [Ex.shift, Ex.shift, shiftAll_back ks d h.2.2]
    by_cases h5 : o = 5
    · rw [if_pos h5, if_pos h5, wrap_back h.1 h.2.1]
    · rw [if_neg h5, if_neg h5]
theorem shiftAll_back : ∀ (l : List Ex) (d : Int), rngAll l → shiftAll (shiftAll l d) (-d) = l
  | [], d, _ => by rw [shiftAll, shiftAll]
  | e :: es, d, h => by
    rw [rngAll] at h
    rw [shiftAll, shiftAll, shift_back e d h.1, shiftAll_back es d h.2]
end
mutual
theorem has_rng : ∀ (e : Ex) (x : Int), e.rng → e.has x → -9223372036854775808 ≤ x ∧ x ≤ 9223372036854775807
  | .mk o c n t g ks, x, h, hx => by
    rw [Ex.rng] at h
    rw [Ex.has] at hx
    rcases hx with ⟨_, rfl⟩ | hx
    · exact ⟨h.1, h.2.1⟩
    · exact hasAny_rng ks x h.2.2 hx
theorem hasAny_rng : ∀ (l : List Ex) (x : Int), rngAll l → hasAny l x → -9223372036854775808 ≤ x ∧ x ≤ 9223372036854775807
  | [], x, _, hx => by rw [hasAny] at hx; exact hx.elim
  | e :: es, x, h, hx => by
    rw [rngAll] at h
    rw [hasAny] at hx
    rcases hx with hx | hx
    · exact has_rng e x h.1 hx
    · exact hasAny_rng es x h.2 hx
end
theorem rising_nodup {l : List Int} (h : l.Pairwise (· < ·)) : l.Nodup := h.imp fun h => by omega
theorem shift_len (e : Ex) (d : Int) (h : e.rng) : (e.shift d).cols.length = e.cols.length := by
  have h1 : (e.cols.map fun y => IntKind.i64.wrap (y + d)).Nodup := by
    refine List.pairwise_map.2 (List.Pairwise.imp_of_mem ?_ (cols_rising e))
    intro a b ha hb hab e1
    have ra := has_rng e a h ((cols_mem e a).1 ha)
    have rb := has_rng e b h ((cols_mem e b).1 hb)
    have e2 := congrArg (fun z => IntKind.i64.wrap (z + -d)) e1
    simp only [wrap_back ra.1 ra.2, wrap_back rb.1 rb.2] at e2
    omega
  have hp : (e.shift d).cols.Perm (e.cols.map fun y => IntKind.i64.wrap (y + d)) := by
    refine (List.perm_ext_iff_of_nodup (rising_nodup (cols_rising _)) h1).2 fun x => ?_
    rw [cols_mem, has_shift, List.mem_map]
    constructor
    · rintro ⟨y, hy, e⟩; exact ⟨y, (cols_mem _ y).2 hy, e.symm⟩
    · rintro ⟨y, hy, e⟩; exact ⟨y, (cols_mem _ y).1 hy, e.symm⟩
  rw [hp.length_eq, List.length_map]
theorem expression_columns (x : Ex) (d : Int) (hf : x.fits) (hr : x.rng) (hn : x.nodes ≤ 1048576) : Cf En 6 [x.a, .d (.int .i64 d)] [] (.d (.bool true)) [] := by
  refine cf_intro mix (fn := Try.f6) (by kernel_rfl) rfl (by kernel_rfl) (by decide) (by simp) ?_
  have hfl := few_law x hf
  have l0 := Ex.clen x
  have k0 := Ex.ctake x
  simp [Ex.a, l0, k0]
  (repeat' (first | contradiction | exact .of (by kernel_rfl) | refine And.intro ?_ ?_ | intro _ | (refine agrd_cases (fun h => ?_) (fun h => ?_) <;> (have h' := h; (try simp at h'); first | done | simp [h, h'] | simp))))
  refine acallT_plain hfl (by simp [Ex.a]) ?_
  cases hok : x.ok
  · simp
    (repeat' (first | contradiction | exact .of (by kernel_rfl) | refine And.intro ?_ ?_ | intro _ | (refine agrd_cases (fun h => ?_) (fun h => ?_) <;> (have h' := h; (try simp at h'); first | done | simp [h, h'] | simp))))
  have hfew : x.few 0 = true := by
    simp [Ex.ok] at hok
    exact hok.1
  by_cases hd1 : 1000000 < d
  · simp [hd1]
    (repeat' (first | contradiction | exact .of (by kernel_rfl) | refine And.intro ?_ ?_ | intro _ | (refine agrd_cases (fun h => ?_) (fun h => ?_) <;> (have h' := h; (try simp at h'); first | done | simp [h, h', hd1] | simp [hd1]))))
  by_cases hd2 : d < -1000000
  · simp [hd1, hd2]
    (repeat' (first | contradiction | exact .of (by kernel_rfl) | refine And.intro ?_ ?_ | intro _ | (refine agrd_cases (fun h => ?_) (fun h => ?_) <;> (have h' := h; (try simp at h'); first | done | simp [h, h', hd1, hd2] | simp [hd1, hd2]))))
  have s1 := shift_cf _ x (Nat.lt_succ_self _) 0 hfew d
  have s2 := r_shift_cf _ x (Nat.lt_succ_self _) 0 hfew d
  have s3 := shift_cf _ (x.shift d) (Nat.lt_succ_self _) 0 (by rw [few_shift]; exact hfew) (-d)
  rw [shift_back x d hr] at s3
  have c1 := c_cols _ x (Nat.lt_succ_self _) 0 hfew hn
  have c2 := r_cols _ x (Nat.lt_succ_self _) 0 hfew hn
  rw [cols_eq] at c2
  have c3 := c_cols _ (x.shift d) (Nat.lt_succ_self _) 0 (by rw [few_shift]; exact hfew) (by rw [nodes_shift]; exact hn)
  have m1 := re_same _ (x.shift d) (x.shift d) (Nat.lt_succ_self _) (fits_shift x d hf)
  have m2 := re_same _ x x (Nat.lt_succ_self _) hf
  rw [Ex.eq_self] at m1 m2
  have hsl := shift_len x d hr
  have hcl := cols_len x
  have cm := c_same x.cols (by omega)
  generalize x.shift d = y at *
  have l1 := Ex.clen y
  have k1 := Ex.ctake y
  have hneg : IntKind.i64.wrap (-d) = -d := wrap_in (by omega) (by omega)
  simp [hd1, hd2]
  (repeat' (first | contradiction | exact .of (by kernel_rfl) | refine And.intro ?_ ?_ | intro _ | (refine agrd_cases (fun h => ?_) (fun h => ?_) <;> (have h' := h; (try simp at h'); first | done | simp [h, h', hd1, hd2, l0, k0] | simp [hd1, hd2, l0, k0]))))
  simp [l0, k0]
  refine acallT_plain s1 (by simp [Ex.a]) ?_
  simp [Ex.a, l0, k0, l1, k1]
  (repeat' (first | contradiction | exact .of (by kernel_rfl) | refine And.intro ?_ ?_ | intro _ | (refine agrd_cases (fun h => ?_) (fun h => ?_) <;> (have h' := h; (try simp at h'); first | done | simp [h, h'] | simp))))
  refine acallT_plain c1 (by simp [Ex.a]) ?_
  simp [l0, k0, l1, k1]
  refine acallT_plain c2 (by simp [Ex.a]) ?_
  simp [l0, k0, l1, k1]
  refine acallT_plain cm (by simp) ?_
  simp [l0, k0, l1, k1]
  refine acallT_plain s2 (by simp [Ex.a]) ?_
  simp [Ex.a, l0, k0, l1, k1]
  refine acallT_plain m1 (by simp [Ex.a]) ?_
  simp [l0, k0, l1, k1, hneg]
  refine acallT_plain s3 (by simp [Ex.a]) ?_
  simp [Ex.a, l0, k0, l1, k1]
  refine acallT_plain m2 (by simp [Ex.a]) ?_
  simp [l0, k0, l1, k1]
  refine acallT_plain c3 (by simp [Ex.a]) ?_
  simp [nums, l0, k0, l1, k1]
  refine acallT_plain c2 (by simp [Ex.a]) ?_
  simp [nums, hsl]
  (repeat' (first | contradiction | exact .of (by kernel_rfl) | refine And.intro ?_ ?_ | intro _ | (refine agrd_cases (fun h => ?_) (fun h => ?_) <;> (have h' := h; (try simp at h'); first | done | simp [h, h'] | simp))))
end Go.Proofs.Try
