/- The library's compaction of values. -/
import Derived.Test.YtlimkhfjidcelaaGreatDoorCmp2
set_option linter.all false
namespace Go.Proofs.Tryz
open Go.Ab
set_option maxRecDepth 100000
set_option maxHeartbeats 2000000

theorem V.beq_f {u v : V} (h : V.beq u v = false) : (u.k == v.k && (u.n == v.n && u.t == v.t)) = false := h
theorem compact (l : List V) (hl : l.length ≤ 1000) : Cf En 80 [.ref 1000000 0 l.length 3] [.arr 54 3 (l.map V.c) false]
    (.ref 1000000 0 (compV l).length 3) [.arr 54 3 ((compV l ++ List.replicate (l.length - (compV l).length) nulV).map V.c) false] := by
  refine cf_intro mix (fn := Tryz.f80) (by kernel_rfl) rfl (by kernel_rfl) (by decide) (by simp) ?_
  by_cases h2 : l.length < 2
  · have h2' : (l.length : Int) < 2 := by omega
    have hc : compV l = l := by
      match l, h2 with
      | [], _ => rfl
      | [_], _ => rfl
    simp [h2, h2', hc]
    (repeat' (first | contradiction | exact .of (by kernel_rfl) | refine And.intro ?_ ?_ | intro _ | (refine agrd_cases (fun h => ?_) (fun h => ?_) <;> (have h' := h; (try simp at h'); first | done | simp [h, h', h2, h2'] | simp [h2, h2']))))
  have h2' : ¬ (l.length : Int) < 2 := by omega
  simp [h2, h2']
  (repeat' (first | contradiction | exact .of (by kernel_rfl) | refine And.intro ?_ ?_ | intro _ | (refine agrd_cases (fun h => ?_) (fun h => ?_) <;> (have h' := h; (try simp at h'); first | done | simp [h, h', h2, h2'] | simp [h2, h2']))))
  refine aloopT mix (by decide) (fun p : Nat => { s := mkS [(0, .ref 1000000 0 l.length 3), (3, .d (.int .i64 ((p : Int) + 1)))], b := mkB [(1000000, 1000000, .arr 54 3 (l.map V.c) false)] }) (fun p => p + 1 ≤ l.length ∧ compV l = l.take p ++ compV (l.drop p)) (fun p => l.length - p) 0 ⟨by omega, by simp⟩ (sub_mk _ [(1000000, 1000000, _)] ⟨by simp, by simp, by simp [renOf, Blk.live], base1⟩ (by simp [renOf])) ?_
  rintro p ⟨hp, hC⟩
  by_cases hlt : p + 1 < l.length
  · have hlt' : (p : Int) + 1 < l.length := by omega
    have h0 : (0 : Int) ≤ (p : Int) + 1 := by omega
    have hp0 : p < l.length := by omega
    have hwp : IntKind.i64.wrap (p : Int) = p := wrap_in (by omega) (by omega)
    have hwp1 : IntKind.i64.wrap ((p : Int) + 1) = p + 1 := wrap_in (by omega) (by omega)
    have hwp2 : IntKind.i64.wrap ((p : Int) + 1 + 1) = p + 1 + 1 := wrap_in (by omega) (by omega)
    obtain ⟨v, hv⟩ : ∃ v, v = l[p] := ⟨_, rfl⟩
    obtain ⟨u, hu⟩ : ∃ u, u = l[p + 1] := ⟨_, rfl⟩
    have hgv : ∀ h, l[p]'h = v := fun _ => hv.symm
    have hgu : ∀ h, l[p + 1]'h = u := fun _ => hu.symm
    cases hb : V.beq u v with
    | false =>
      have hb2 : V.beq l[p] l[p + 1] = false := by
        cases e : V.beq l[p] l[p + 1] with
        | false => rfl
        | true =>
          have := (V.beq_iff _ _).1 e
          rw [hgv, hgu] at this
          subst this
          rw [(V.beq_iff _ _).2 rfl] at hb; cases hb
      have hs := compV_take hlt hb2
      have hf := V.beq_f hb
      simp [hlt, hlt', h0, hp0, hwp, hgv, hgu, V.c, hf]
      (repeat' (first | contradiction | exact .of (by kernel_rfl) | refine And.intro ?_ ?_ | intro _ | (refine agrd_cases (fun h => ?_) (fun h => ?_) <;> (have h' := h; (try simp at h'); first | done | simp [h, h', hf] | simp [hf]))))
      refine ⟨p + 1, ⟨by omega, by rw [hC, hs, take_snoc hp0, List.append_assoc]; rfl⟩, ?_, by simp; omega⟩
      exact sub_mk _ [(1000000, 1000000, _)] ⟨by simp, by simp, by simp [renOf, Blk.live], base1⟩ (by simp [renOf, hwp2])
    | true =>
      have huv := (V.beq_iff _ _).1 hb
      subst huv
      have hinit : l.take (p + 1) ++ (compV (l.drop (p + 1))).tail = compV l := by
        rw [hC, take_snoc hp0, hgv, List.append_assoc]
        congr 1
        obtain ⟨m, hm⟩ := compV_head u (l.drop (p + 1 + 1))
        rw [List.drop_eq_getElem_cons hp0, List.drop_eq_getElem_cons hlt, hgv, hgu, compV, if_pos ((V.beq_iff _ _).2 rfl), hm]
        rfl
      have hle' : (p : Int) + 1 ≤ l.length := by omega
      simp [hlt, hlt', hle', h0, hp0, hwp, hgv, hgu, V.c]
      (repeat' (first | contradiction | exact .of (by kernel_rfl) | refine And.intro ?_ ?_ | intro _ | (refine agrd_cases (fun h => ?_) (fun h => ?_) <;> (have h' := h; (try simp at h'); first | done | simp [h, h'] | simp))))
      refine aloopT mix (by decide) (cpF l.length (p + 1)) (fun x => 1 ≤ x.2.1 ∧ p + 1 + x.2.1 ≤ l.length ∧ 1 ≤ x.1 ∧ x.1 ≤ p + x.2.1 ∧ x.2.2.length = l.length ∧ x.2.2.drop (p + x.2.1) = l.drop (p + x.2.1) ∧ x.2.2.take x.1 ++ (compV (l.drop (p + x.2.1))).tail = compV l) (fun x => l.length - x.2.1) (p + 1, 1, l) ⟨by simp, by simp only; omega, by simp, by simp, rfl, rfl, hinit⟩
        (sub_mk _ [(1000000, 1000000, _)] ⟨by simp, by simp, by simp [renOf, Blk.live], base1⟩ (by simp [renOf])) ?_
      rintro ⟨k, k2, A⟩ ⟨i1, i2, i3, i4, i5, i6, i7⟩
      simp only at i1 i2 i3 i4 i5 i6 i7
      obtain ⟨j, rfl⟩ : ∃ j, k2 = j + 1 := ⟨k2 - 1, by omega⟩
      have hAg : ∀ i, p + (j + 1) ≤ i → A[i]? = l[i]? := fun i hi => by
        have := congrArg (·[i - (p + (j + 1))]?) i6
        simp only [List.getElem?_drop] at this
        rwa [show p + (j + 1) + (i - (p + (j + 1))) = i from by omega] at this
      have hsub : (l.length - (p + 1) : Nat) = l.length - (p + 1) := rfl
      by_cases hj : j + 1 < l.length - (p + 1)
      · have hj' : (j : Int) + 1 < ((l.length - (p + 1) : Nat) : Int) := by omega
        have hq1 : p + (j + 1) + 1 < l.length := by omega
        obtain ⟨b, hbq⟩ : ∃ b, b = l[p + (j + 1)] := ⟨_, rfl⟩
        obtain ⟨a, haq⟩ : ∃ a, a = l[p + (j + 1) + 1] := ⟨_, rfl⟩
        have htl := compV_tail hq1
        rw [← hbq, ← haq] at htl
        have c1 : A[p + 1 + (j + 1)]? = some a := by rw [hAg _ (by omega), List.getElem?_eq_getElem (by omega), haq]; congr 2; omega
        have c2 : A[p + 1 + j]? = some b := by rw [hAg _ (by omega), List.getElem?_eq_getElem (by omega), hbq]; congr 2; omega
        have hl1 : p + 1 + (j + 1) < A.length := by omega
        have hl2 : p + 1 + j < A.length := by omega
        have d1 : ∀ h, A[p + 1 + (j + 1)]'h = a := fun h => by rw [List.getElem?_eq_getElem h] at c1; exact Option.some.inj c1
        have d2 : ∀ h, A[p + 1 + j]'h = b := fun h => by rw [List.getElem?_eq_getElem h] at c2; exact Option.some.inj c2
        have hj0 : (0 : Int) ≤ (j : Int) + 1 := by omega
        have hjl : j < l.length - (p + 1) := by omega
        have hwj : IntKind.i64.wrap (j : Int) = j := wrap_in (by omega) (by omega)
        have hwj2 : IntKind.i64.wrap ((j : Int) + 1 + 1) = j + 1 + 1 := wrap_in (by omega) (by omega)
        have hkl : k < l.length := by omega
        have hkA : k < A.length := by omega
        have hwk : IntKind.i64.wrap ((k : Int) + 1) = k + 1 := wrap_in (by omega) (by omega)
        cases hbe : V.beq a b with
        | true =>
          have hab := (V.beq_iff _ _).1 hbe
          subst hab
          rw [if_pos ((V.beq_iff _ _).2 rfl)] at htl
          simp [cpF, hj, hj', hj0, hjl, hwj, c1, c2, hl1, hl2, d1, d2, V.c]
          (repeat' (first | contradiction | exact .of (by kernel_rfl) | refine And.intro ?_ ?_ | intro _ | (refine agrd_cases (fun h => ?_) (fun h => ?_) <;> (have h' := h; (try simp at h'); first | done | simp [h, h'] | simp))))
          refine ⟨(k, j + 1 + 1, A), ⟨by simp, by simp only; omega, i3, by simp only; omega, i5, ?_, ?_⟩, ?_, by simp only; omega⟩
          · have := congrArg (List.drop 1) i6
            simpa only [List.drop_drop, Nat.add_assoc] using this
          · have e : p + (j + 1 + 1) = p + (j + 1) + 1 := by omega
            simp only [e]; rw [← htl]; exact i7
          · exact sub_mk _ [(1000000, 1000000, _)] ⟨by simp, by simp, by simp [renOf, Blk.live], base1⟩ (by simp [renOf, hwj2])
        | false =>
          have hf := V.beq_f hbe
          have hbe2 : V.beq b a = false := by
            cases e : V.beq b a with
            | false => rfl
            | true =>
              have := (V.beq_iff _ _).1 e
              subst this
              rw [(V.beq_iff _ _).2 rfl] at hbe; cases hbe
          rw [if_neg (by rw [hbe2]; decide)] at htl
          simp [cpF, hj, hj', hj0, hjl, hwj, c1, c2, hl1, hl2, d1, d2, V.c, hf, hkl, hkA]
          (repeat' (first | contradiction | exact .of (by kernel_rfl) | refine And.intro ?_ ?_ | intro _ | (refine agrd_cases (fun h => ?_) (fun h => ?_) <;> (have h' := h; (try simp at h'); first | done | simp [h, h', hf] | simp [hf]))))
          refine ⟨(k + 1, j + 1 + 1, A.set k a), ⟨by simp, by simp only; omega, by simp, by simp only; omega, by simpa using i5, ?_, ?_⟩, ?_, by simp only; omega⟩
          · have := congrArg (List.drop 1) i6
            simp only [List.drop_drop, Nat.add_assoc] at this
            simp only
            rw [List.drop_set_of_lt (by omega)]
            exact this
          · have e : p + (j + 1 + 1) = p + (j + 1) + 1 := by omega
            simp only [e]
            have e2 : (A.set k a).take (k + 1) = A.take k ++ [a] := by
              rw [take_snoc (by simpa using hkA), List.take_set_of_le (Nat.le_refl k), List.getElem_set_self]
            rw [e2, List.append_assoc, ← i7, htl]
            rfl
          · exact sub_mk _ [(1000000, 1000000, _)] ⟨by simp, by simp, by simp [renOf, Blk.live, List.map_set, V.c], base1⟩ (by simp [renOf, hwj2, hwk])
      · have hjn : ¬ (j : Int) + 1 < ((l.length - (p + 1) : Nat) : Int) := by omega
        have hq : p + (j + 1) = l.length - 1 := by omega
        have htl : (compV (l.drop (p + (j + 1)))).tail = [] := by
          rw [List.drop_eq_getElem_cons (by omega), List.drop_of_length_le (by omega), compV]; rfl
        rw [htl, List.append_nil] at i7
        have hkC : (compV l).length = k := by rw [← i7]; simp; omega
        have hk1 : k < l.length := by omega
        have hk1' : (k : Int) ≤ l.length := by omega
        have hk2 : k + (l.length - k) = l.length := by omega
        have hk3 : 0 < l.length - k := by omega
        have hdl : List.drop l.length (A.map V.c) = [] := List.drop_of_length_le (by simp; omega)
        have hk4 : k ≤ A.length := by omega
        have hk5 : k ≤ l.length := by omega
        have hfin : List.take k (A.map V.c) = (compV l).map V.c := by rw [← List.map_take, i7]
        rw [hkC]
        simp [cpF, hj, hjn, hk1, hk1', hk2, hk3, i5, hdl, hk4, hk5, hfin, V.c, nulV]
        (repeat' (first | contradiction | exact .of (by kernel_rfl) | refine And.intro ?_ ?_ | intro _ | (refine agrd_cases (fun h => ?_) (fun h => ?_) <;> (have h' := h; (try simp at h'); first | done | simp [h, h'] | simp))))
  have hpe : p + 1 = l.length := by omega
  have hcl : compV l = l := by
    rw [hC, List.drop_eq_getElem_cons (by omega), List.drop_of_length_le (by omega), compV]
    conv => rhs; rw [← List.take_length (l := l), ← hpe, take_snoc (by omega)]
  have hpe' : (p : Int) + 1 = l.length := by omega
  simp [hpe', hcl]
  (repeat' (first | contradiction | exact .of (by kernel_rfl) | refine And.intro ?_ ?_ | intro _ | (refine agrd_cases (fun h => ?_) (fun h => ?_) <;> (have h' := h; (try simp at h'); first | done | simp [h, h'] | simp))))
end Go.Proofs.Tryz
