/- The reference's Eval: some operations. -/
import Derived.Test.YtlimkhfjidcelaaGreatDoorRe0
set_option linter.all false
namespace Go.Proofs.Tryz
open Go.Ab
set_option maxRecDepth 100000
set_option maxHeartbeats 16000000

theorem re_24 (row : List V) (hrow : row.length ≤ 1000) (c n g : Int) (t : List UInt8) (ks : List Ex) (hk : ks.length ≤ 12)
    (hrec : ∀ e ∈ ks, Cf En 21 [e.a, .d (.sl (row.map V.c))] [] (evalV e row).a []) (hcn : cntd 24 ks.length = true) :
    Cf En 21 [(Ex.mk 24 c n t g ks).a, .d (.sl (row.map V.c))] [] (evalV (.mk 24 c n t g ks) row).a [] := by
    refine cf_intro mix (fn := Tryz.f21) (by kernel_rfl) rfl (by kernel_rfl) (by decide) (by simp) ?_
    have hkc := kids_cntd 24 ks.length (by decide)
    simp [Ex.a, Ex.c, kidsC_map]
    (repeat' (first | contradiction | exact .of (by kernel_rfl) | refine And.intro ?_ ?_ | intro _ | (refine agrd_cases (fun h => ?_) (fun h => ?_) <;> (have h' := h; (try simp at h'); first | done | simp [h, h'] | simp))))
    refine acallT_plain (r_kids 24 ks.length) (by simp) ?_
    rw [hkc, hcn]
    simp
    (repeat' (first | contradiction | exact .of (by kernel_rfl) | refine And.intro ?_ ?_ | intro _ | (refine agrd_cases (fun h => ?_) (fun h => ?_) <;> (have h' := h; (try simp at h'); first | done | simp [h, h'] | simp))))
    refine aloopT mix (by decide) (rvF 24 c n g t ks row) (fun i : Nat => i ≤ ks.length) (fun i => ks.length - i) 0 (by simp) (sub_mk [(1, _), (2, _), (4, _), (5, _), (6, _)] [(2, 2, _), (4, 4, _)] ⟨by simp, by simp, by simp [renOf, Blk.live], by simp⟩ (by simp [renOf])) ?_
    intro i hi
    by_cases hlt : i < ks.length
    · have hgi : ks[i]? = some ks[i] := List.getElem?_eq_getElem hlt
      have c1 := Ex.clen ks[i]
      have k1 := Ex.ctake ks[i]
      have hr := hrec ks[i] (List.getElem_mem hlt)
      have htk : List.take (i + 1) (List.map (fun e => (evalV e row).c) ks) = List.take i (List.map (fun e => (evalV e row).c) ks) ++ [(evalV ks[i] row).c] := by
        rw [List.take_add_one, List.getElem?_map, hgi]; rfl
      simp only [V.c] at htk
      cases i with
      | zero =>
        have hlt2 : (0 : Int) < ks.length := by omega
        simp [rvF, hlt, hlt2, hgi, c1, k1]
        (repeat' (first | contradiction | exact .of (by kernel_rfl) | refine And.intro ?_ ?_ | intro _ | (refine agrd_cases (fun h => ?_) (fun h => ?_) <;> (have h' := h; (try simp at h'); first | done | simp [h, h'] | simp))))
        refine acallT_plain hr (by simp [Ex.a]) ?_
        simp [V.a]
        (repeat' (first | contradiction | exact .of (by kernel_rfl) | refine And.intro ?_ ?_ | intro _ | (refine agrd_cases (fun h => ?_) (fun h => ?_) <;> (have h' := h; (try simp at h'); first | done | simp [h, h'] | simp))))
        refine ⟨1, hlt, ?_, ?_⟩
        · refine sub_mk [(1, _), (2, _), (4, _), (5, _), (6, _)] [(2, 2, _), (4, 4, _), (900, 43, _)] ⟨by simp, by simp, ?_, by simp⟩ ?_
          · simp only [Nat.zero_add, List.take_zero, List.nil_append] at htk
            simp [renOf, Blk.live, htk, V.c]
          · simp [renOf]
            exact wrap_in (by omega) (by omega)
        · simp; omega
      | succ i =>
        have hlt2 : ((i + 1 : Nat) : Int) < ks.length := by omega
        have hlt3 : (i : Int) + 1 < ks.length := by omega
        have hp : (0 : Int) ≤ (i : Int) + 1 := by omega
        have hmin : min (i + 1) ks.length = i + 1 := by omega
        have s1 : (i + 1 + 1) * 32 ≤ 140737488355328 := by omega
        have s2 : i ≤ 9223372036854775805 := by omega
        simp [rvF, hlt, hlt2, hlt3, hp, hgi, c1, k1]
        (repeat' (first | contradiction | exact .of (by kernel_rfl) | refine And.intro ?_ ?_ | intro _ | (refine agrd_cases (fun h => ?_) (fun h => ?_) <;> (have h' := h; (try simp at h'); first | done | simp [h, h'] | simp))))
        refine acallT_plain hr (by simp [Ex.a]) ?_
        simp [V.a, hmin, s1, s2]
        (repeat' (first | contradiction | exact .of (by kernel_rfl) | refine And.intro ?_ ?_ | intro _ | (refine agrd_cases (fun h => ?_) (fun h => ?_) <;> (have h' := h; (try simp at h'); first | done | simp [h, h'] | simp))))
        refine ⟨i + 2, by omega, ?_, ?_⟩
        · refine sub_mk [(1, _), (2, _), (4, _), (5, _), (6, _)] [(2, 2, _), (4, 4, _), (900, 43, _)] ⟨by simp, by simp, ?_, by simp⟩ ?_
          · simp [renOf, Blk.live, htk, V.c]
          · simp [renOf]
            rw [wrap_in (by omega) (by omega)]
        · simp; omega
    have hie : i = ks.length := by omega
    subst hie
    clear hrec hkc hi hlt
    · obtain ⟨a, rfl⟩ : ∃ a, ks = [a] := by
        have hl : ks.length = 1 := by simp [cntd, isOp, opOf, ops] at hcn; omega
        match ks, hl with
        | [a], _ => exact ⟨a, rfl⟩
      have he : evalV (.mk 24 c n t g [a]) row = notV (evalV a row) := by simp [evalV, show cntd 24 1 = true from by decide, evalAll, applyV, at0, at1]
      rw [he]
      simp [rvF, V.c]
      (repeat' (first | contradiction | exact .of (by kernel_rfl) | refine And.intro ?_ ?_ | intro _ | (refine agrd_cases (fun h => ?_) (fun h => ?_) <;> (have h' := h; (try simp at h'); first | done | simp [h, h'] | simp))))
      refine acallT_plain (r_not (evalV a row)) (by simp [V.a]) ?_
      simp [V.a]
      (repeat' (first | contradiction | exact .of (by kernel_rfl) | refine And.intro ?_ ?_ | intro _ | (refine agrd_cases (fun h => ?_) (fun h => ?_) <;> (have h' := h; (try simp at h'); first | done | simp [h, h'] | simp))))
theorem re_25 (row : List V) (hrow : row.length ≤ 1000) (c n g : Int) (t : List UInt8) (ks : List Ex) (hk : ks.length ≤ 12)
    (hrec : ∀ e ∈ ks, Cf En 21 [e.a, .d (.sl (row.map V.c))] [] (evalV e row).a []) (hcn : cntd 25 ks.length = true) :
    Cf En 21 [(Ex.mk 25 c n t g ks).a, .d (.sl (row.map V.c))] [] (evalV (.mk 25 c n t g ks) row).a [] := by
    refine cf_intro mix (fn := Tryz.f21) (by kernel_rfl) rfl (by kernel_rfl) (by decide) (by simp) ?_
    have hkc := kids_cntd 25 ks.length (by decide)
    simp [Ex.a, Ex.c, kidsC_map]
    (repeat' (first | contradiction | exact .of (by kernel_rfl) | refine And.intro ?_ ?_ | intro _ | (refine agrd_cases (fun h => ?_) (fun h => ?_) <;> (have h' := h; (try simp at h'); first | done | simp [h, h'] | simp))))
    refine acallT_plain (r_kids 25 ks.length) (by simp) ?_
    rw [hkc, hcn]
    simp
    (repeat' (first | contradiction | exact .of (by kernel_rfl) | refine And.intro ?_ ?_ | intro _ | (refine agrd_cases (fun h => ?_) (fun h => ?_) <;> (have h' := h; (try simp at h'); first | done | simp [h, h'] | simp))))
    refine aloopT mix (by decide) (rvF 25 c n g t ks row) (fun i : Nat => i ≤ ks.length) (fun i => ks.length - i) 0 (by simp) (sub_mk [(1, _), (2, _), (4, _), (5, _), (6, _)] [(2, 2, _), (4, 4, _)] ⟨by simp, by simp, by simp [renOf, Blk.live], by simp⟩ (by simp [renOf])) ?_
    intro i hi
    by_cases hlt : i < ks.length
    · have hgi : ks[i]? = some ks[i] := List.getElem?_eq_getElem hlt
      have c1 := Ex.clen ks[i]
      have k1 := Ex.ctake ks[i]
      have hr := hrec ks[i] (List.getElem_mem hlt)
      have htk : List.take (i + 1) (List.map (fun e => (evalV e row).c) ks) = List.take i (List.map (fun e => (evalV e row).c) ks) ++ [(evalV ks[i] row).c] := by
        rw [List.take_add_one, List.getElem?_map, hgi]; rfl
      simp only [V.c] at htk
      cases i with
      | zero =>
        have hlt2 : (0 : Int) < ks.length := by omega
        simp [rvF, hlt, hlt2, hgi, c1, k1]
        (repeat' (first | contradiction | exact .of (by kernel_rfl) | refine And.intro ?_ ?_ | intro _ | (refine agrd_cases (fun h => ?_) (fun h => ?_) <;> (have h' := h; (try simp at h'); first | done | simp [h, h'] | simp))))
        refine acallT_plain hr (by simp [Ex.a]) ?_
        simp [V.a]
        (repeat' (first | contradiction | exact .of (by kernel_rfl) | refine And.intro ?_ ?_ | intro _ | (refine agrd_cases (fun h => ?_) (fun h => ?_) <;> (have h' := h; (try simp at h'); first | done | simp [h, h'] | simp))))
        refine ⟨1, hlt, ?_, ?_⟩
        · refine sub_mk [(1, _), (2, _), (4, _), (5, _), (6, _)] [(2, 2, _), (4, 4, _), (900, 43, _)] ⟨by simp, by simp, ?_, by simp⟩ ?_
          · simp only [Nat.zero_add, List.take_zero, List.nil_append] at htk
            simp [renOf, Blk.live, htk, V.c]
          · simp [renOf]
            exact wrap_in (by omega) (by omega)
        · simp; omega
      | succ i =>
        have hlt2 : ((i + 1 : Nat) : Int) < ks.length := by omega
        have hlt3 : (i : Int) + 1 < ks.length := by omega
        have hp : (0 : Int) ≤ (i : Int) + 1 := by omega
        have hmin : min (i + 1) ks.length = i + 1 := by omega
        have s1 : (i + 1 + 1) * 32 ≤ 140737488355328 := by omega
        have s2 : i ≤ 9223372036854775805 := by omega
        simp [rvF, hlt, hlt2, hlt3, hp, hgi, c1, k1]
        (repeat' (first | contradiction | exact .of (by kernel_rfl) | refine And.intro ?_ ?_ | intro _ | (refine agrd_cases (fun h => ?_) (fun h => ?_) <;> (have h' := h; (try simp at h'); first | done | simp [h, h'] | simp))))
        refine acallT_plain hr (by simp [Ex.a]) ?_
        simp [V.a, hmin, s1, s2]
        (repeat' (first | contradiction | exact .of (by kernel_rfl) | refine And.intro ?_ ?_ | intro _ | (refine agrd_cases (fun h => ?_) (fun h => ?_) <;> (have h' := h; (try simp at h'); first | done | simp [h, h'] | simp))))
        refine ⟨i + 2, by omega, ?_, ?_⟩
        · refine sub_mk [(1, _), (2, _), (4, _), (5, _), (6, _)] [(2, 2, _), (4, 4, _), (900, 43, _)] ⟨by simp, by simp, ?_, by simp⟩ ?_
          · simp [renOf, Blk.live, htk, V.c]
          · simp [renOf]
            rw [wrap_in (by omega) (by omega)]
        · simp; omega
    have hie : i = ks.length := by omega
    subst hie
    clear hrec hkc hi hlt
    · obtain ⟨a, rfl⟩ : ∃ a, ks = [a] := by
        have hl : ks.length = 1 := by simp [cntd, isOp, opOf, ops] at hcn; omega
        match ks, hl with
        | [a], _ => exact ⟨a, rfl⟩
      have he : evalV (.mk 25 c n t g [a]) row = ofV ((evalV a row).tr == 1) := by simp [evalV, show cntd 25 1 = true from by decide, evalAll, applyV, at0, at1]
      rw [he]
      simp [rvF, V.c]
      (repeat' (first | contradiction | exact .of (by kernel_rfl) | refine And.intro ?_ ?_ | intro _ | (refine agrd_cases (fun h => ?_) (fun h => ?_) <;> (have h' := h; (try simp at h'); first | done | simp [h, h'] | simp))))
      refine acallT_plain (r_truth (evalV a row)) (by simp [V.a]) ?_
      simp [V.a]
      (repeat' (first | contradiction | exact .of (by kernel_rfl) | refine And.intro ?_ ?_ | intro _ | (refine agrd_cases (fun h => ?_) (fun h => ?_) <;> (have h' := h; (try simp at h'); first | done | simp [h, h'] | simp))))
      refine acallT_plain (r_of ((evalV a row).tr == 1)) (by simp [V.a]) ?_
      simp [V.a]
      (repeat' (first | contradiction | exact .of (by kernel_rfl) | refine And.intro ?_ ?_ | intro _ | (refine agrd_cases (fun h => ?_) (fun h => ?_) <;> (have h' := h; (try simp at h'); first | done | simp [h, h'] | simp))))
theorem re_26 (row : List V) (hrow : row.length ≤ 1000) (c n g : Int) (t : List UInt8) (ks : List Ex) (hk : ks.length ≤ 12)
    (hrec : ∀ e ∈ ks, Cf En 21 [e.a, .d (.sl (row.map V.c))] [] (evalV e row).a []) (hcn : cntd 26 ks.length = true) :
    Cf En 21 [(Ex.mk 26 c n t g ks).a, .d (.sl (row.map V.c))] [] (evalV (.mk 26 c n t g ks) row).a [] := by
    refine cf_intro mix (fn := Tryz.f21) (by kernel_rfl) rfl (by kernel_rfl) (by decide) (by simp) ?_
    have hkc := kids_cntd 26 ks.length (by decide)
    simp [Ex.a, Ex.c, kidsC_map]
    (repeat' (first | contradiction | exact .of (by kernel_rfl) | refine And.intro ?_ ?_ | intro _ | (refine agrd_cases (fun h => ?_) (fun h => ?_) <;> (have h' := h; (try simp at h'); first | done | simp [h, h'] | simp))))
    refine acallT_plain (r_kids 26 ks.length) (by simp) ?_
    rw [hkc, hcn]
    simp
    (repeat' (first | contradiction | exact .of (by kernel_rfl) | refine And.intro ?_ ?_ | intro _ | (refine agrd_cases (fun h => ?_) (fun h => ?_) <;> (have h' := h; (try simp at h'); first | done | simp [h, h'] | simp))))
    refine aloopT mix (by decide) (rvF 26 c n g t ks row) (fun i : Nat => i ≤ ks.length) (fun i => ks.length - i) 0 (by simp) (sub_mk [(1, _), (2, _), (4, _), (5, _), (6, _)] [(2, 2, _), (4, 4, _)] ⟨by simp, by simp, by simp [renOf, Blk.live], by simp⟩ (by simp [renOf])) ?_
    intro i hi
    by_cases hlt : i < ks.length
    · have hgi : ks[i]? = some ks[i] := List.getElem?_eq_getElem hlt
      have c1 := Ex.clen ks[i]
      have k1 := Ex.ctake ks[i]
      have hr := hrec ks[i] (List.getElem_mem hlt)
      have htk : List.take (i + 1) (List.map (fun e => (evalV e row).c) ks) = List.take i (List.map (fun e => (evalV e row).c) ks) ++ [(evalV ks[i] row).c] := by
        rw [List.take_add_one, List.getElem?_map, hgi]; rfl
      simp only [V.c] at htk
      cases i with
      | zero =>
        have hlt2 : (0 : Int) < ks.length := by omega
        simp [rvF, hlt, hlt2, hgi, c1, k1]
        (repeat' (first | contradiction | exact .of (by kernel_rfl) | refine And.intro ?_ ?_ | intro _ | (refine agrd_cases (fun h => ?_) (fun h => ?_) <;> (have h' := h; (try simp at h'); first | done | simp [h, h'] | simp))))
        refine acallT_plain hr (by simp [Ex.a]) ?_
        simp [V.a]
        (repeat' (first | contradiction | exact .of (by kernel_rfl) | refine And.intro ?_ ?_ | intro _ | (refine agrd_cases (fun h => ?_) (fun h => ?_) <;> (have h' := h; (try simp at h'); first | done | simp [h, h'] | simp))))
        refine ⟨1, hlt, ?_, ?_⟩
        · refine sub_mk [(1, _), (2, _), (4, _), (5, _), (6, _)] [(2, 2, _), (4, 4, _), (900, 43, _)] ⟨by simp, by simp, ?_, by simp⟩ ?_
          · simp only [Nat.zero_add, List.take_zero, List.nil_append] at htk
            simp [renOf, Blk.live, htk, V.c]
          · simp [renOf]
            exact wrap_in (by omega) (by omega)
        · simp; omega
      | succ i =>
        have hlt2 : ((i + 1 : Nat) : Int) < ks.length := by omega
        have hlt3 : (i : Int) + 1 < ks.length := by omega
        have hp : (0 : Int) ≤ (i : Int) + 1 := by omega
        have hmin : min (i + 1) ks.length = i + 1 := by omega
        have s1 : (i + 1 + 1) * 32 ≤ 140737488355328 := by omega
        have s2 : i ≤ 9223372036854775805 := by omega
        simp [rvF, hlt, hlt2, hlt3, hp, hgi, c1, k1]
        (repeat' (first | contradiction | exact .of (by kernel_rfl) | refine And.intro ?_ ?_ | intro _ | (refine agrd_cases (fun h => ?_) (fun h => ?_) <;> (have h' := h; (try simp at h'); first | done | simp [h, h'] | simp))))
        refine acallT_plain hr (by simp [Ex.a]) ?_
        simp [V.a, hmin, s1, s2]
        (repeat' (first | contradiction | exact .of (by kernel_rfl) | refine And.intro ?_ ?_ | intro _ | (refine agrd_cases (fun h => ?_) (fun h => ?_) <;> (have h' := h; (try simp at h'); first | done | simp [h, h'] | simp))))
        refine ⟨i + 2, by omega, ?_, ?_⟩
        · refine sub_mk [(1, _), (2, _), (4, _), (5, _), (6, _)] [(2, 2, _), (4, 4, _), (900, 43, _)] ⟨by simp, by simp, ?_, by simp⟩ ?_
          · simp [renOf, Blk.live, htk, V.c]
          · simp [renOf]
            rw [wrap_in (by omega) (by omega)]
        · simp; omega
    have hie : i = ks.length := by omega
    subst hie
    clear hrec hkc hi hlt
    · obtain ⟨a, b, d, rfl⟩ : ∃ a b d, ks = [a, b, d] := by
        match ks, case_len hcn with
        | [a, b, d], _ => exact ⟨a, b, d, rfl⟩
      have he : evalV (.mk 26 c n t g [a, b, d]) row = if (evalV a row).tr = 1 then evalV b row else evalV d row := by
        simp [evalV, show cntd 26 3 = true from by decide, evalAll, at0, at1, at2]
      rw [he]
      by_cases h1 : (evalV a row).tr = 1
      · rw [if_pos h1]
        simp [rvF, V.c, V.a]
        (repeat' (first | contradiction | exact .of (by kernel_rfl) | refine And.intro ?_ ?_ | intro _ | (refine agrd_cases (fun h => ?_) (fun h => ?_) <;> (have h' := h; (try simp at h'); first | done | simp [h, h'] | simp))))
        refine acallT_plain (r_truth (evalV a row)) (by simp [V.a]) ?_
        simp [h1, V.a]
        (repeat' (first | contradiction | exact .of (by kernel_rfl) | refine And.intro ?_ ?_ | intro _ | (refine agrd_cases (fun h => ?_) (fun h => ?_) <;> (have h' := h; (try simp at h'); first | done | simp [h, h', h1] | simp [h1]))))
      · rw [if_neg h1]
        simp [rvF, V.c, V.a]
        (repeat' (first | contradiction | exact .of (by kernel_rfl) | refine And.intro ?_ ?_ | intro _ | (refine agrd_cases (fun h => ?_) (fun h => ?_) <;> (have h' := h; (try simp at h'); first | done | simp [h, h'] | simp))))
        refine acallT_plain (r_truth (evalV a row)) (by simp [V.a]) ?_
        simp [h1, V.a]
        (repeat' (first | contradiction | exact .of (by kernel_rfl) | refine And.intro ?_ ?_ | intro _ | (refine agrd_cases (fun h => ?_) (fun h => ?_) <;> (have h' := h; (try simp at h'); first | done | simp [h, h', h1] | simp [h1]))))
theorem re_27 (row : List V) (hrow : row.length ≤ 1000) (c n g : Int) (t : List UInt8) (ks : List Ex) (hk : ks.length ≤ 12)
    (hrec : ∀ e ∈ ks, Cf En 21 [e.a, .d (.sl (row.map V.c))] [] (evalV e row).a []) (hcn : cntd 27 ks.length = true) :
    Cf En 21 [(Ex.mk 27 c n t g ks).a, .d (.sl (row.map V.c))] [] (evalV (.mk 27 c n t g ks) row).a [] := by
    refine cf_intro mix (fn := Tryz.f21) (by kernel_rfl) rfl (by kernel_rfl) (by decide) (by simp) ?_
    have hkc := kids_cntd 27 ks.length (by decide)
    simp [Ex.a, Ex.c, kidsC_map]
    (repeat' (first | contradiction | exact .of (by kernel_rfl) | refine And.intro ?_ ?_ | intro _ | (refine agrd_cases (fun h => ?_) (fun h => ?_) <;> (have h' := h; (try simp at h'); first | done | simp [h, h'] | simp))))
    refine acallT_plain (r_kids 27 ks.length) (by simp) ?_
    rw [hkc, hcn]
    simp
    (repeat' (first | contradiction | exact .of (by kernel_rfl) | refine And.intro ?_ ?_ | intro _ | (refine agrd_cases (fun h => ?_) (fun h => ?_) <;> (have h' := h; (try simp at h'); first | done | simp [h, h'] | simp))))
    refine aloopT mix (by decide) (rvF 27 c n g t ks row) (fun i : Nat => i ≤ ks.length) (fun i => ks.length - i) 0 (by simp) (sub_mk [(1, _), (2, _), (4, _), (5, _), (6, _)] [(2, 2, _), (4, 4, _)] ⟨by simp, by simp, by simp [renOf, Blk.live], by simp⟩ (by simp [renOf])) ?_
    intro i hi
    by_cases hlt : i < ks.length
    · have hgi : ks[i]? = some ks[i] := List.getElem?_eq_getElem hlt
      have c1 := Ex.clen ks[i]
      have k1 := Ex.ctake ks[i]
      have hr := hrec ks[i] (List.getElem_mem hlt)
      have htk : List.take (i + 1) (List.map (fun e => (evalV e row).c) ks) = List.take i (List.map (fun e => (evalV e row).c) ks) ++ [(evalV ks[i] row).c] := by
        rw [List.take_add_one, List.getElem?_map, hgi]; rfl
      simp only [V.c] at htk
      cases i with
      | zero =>
        have hlt2 : (0 : Int) < ks.length := by omega
        simp [rvF, hlt, hlt2, hgi, c1, k1]
        (repeat' (first | contradiction | exact .of (by kernel_rfl) | refine And.intro ?_ ?_ | intro _ | (refine agrd_cases (fun h => ?_) (fun h => ?_) <;> (have h' := h; (try simp at h'); first | done | simp [h, h'] | simp))))
        refine acallT_plain hr (by simp [Ex.a]) ?_
        simp [V.a]
        (repeat' (first | contradiction | exact .of (by kernel_rfl) | refine And.intro ?_ ?_ | intro _ | (refine agrd_cases (fun h => ?_) (fun h => ?_) <;> (have h' := h; (try simp at h'); first | done | simp [h, h'] | simp))))
        refine ⟨1, hlt, ?_, ?_⟩
        · refine sub_mk [(1, _), (2, _), (4, _), (5, _), (6, _)] [(2, 2, _), (4, 4, _), (900, 43, _)] ⟨by simp, by simp, ?_, by simp⟩ ?_
          · simp only [Nat.zero_add, List.take_zero, List.nil_append] at htk
            simp [renOf, Blk.live, htk, V.c]
          · simp [renOf]
            exact wrap_in (by omega) (by omega)
        · simp; omega
      | succ i =>
        have hlt2 : ((i + 1 : Nat) : Int) < ks.length := by omega
        have hlt3 : (i : Int) + 1 < ks.length := by omega
        have hp : (0 : Int) ≤ (i : Int) + 1 := by omega
        have hmin : min (i + 1) ks.length = i + 1 := by omega
        have s1 : (i + 1 + 1) * 32 ≤ 140737488355328 := by omega
        have s2 : i ≤ 9223372036854775805 := by omega
        simp [rvF, hlt, hlt2, hlt3, hp, hgi, c1, k1]
        (repeat' (first | contradiction | exact .of (by kernel_rfl) | refine And.intro ?_ ?_ | intro _ | (refine agrd_cases (fun h => ?_) (fun h => ?_) <;> (have h' := h; (try simp at h'); first | done | simp [h, h'] | simp))))
        refine acallT_plain hr (by simp [Ex.a]) ?_
        simp [V.a, hmin, s1, s2]
        (repeat' (first | contradiction | exact .of (by kernel_rfl) | refine And.intro ?_ ?_ | intro _ | (refine agrd_cases (fun h => ?_) (fun h => ?_) <;> (have h' := h; (try simp at h'); first | done | simp [h, h'] | simp))))
        refine ⟨i + 2, by omega, ?_, ?_⟩
        · refine sub_mk [(1, _), (2, _), (4, _), (5, _), (6, _)] [(2, 2, _), (4, 4, _), (900, 43, _)] ⟨by simp, by simp, ?_, by simp⟩ ?_
          · simp [renOf, Blk.live, htk, V.c]
          · simp [renOf]
            rw [wrap_in (by omega) (by omega)]
        · simp; omega
    have hie : i = ks.length := by omega
    subst hie
    clear hrec hkc hi hlt
    · obtain ⟨a, b, rfl⟩ : ∃ a b, ks = [a, b] := by
        have hl : ks.length = 2 := by simp [cntd, isOp, opOf, ops] at hcn; omega
        match ks, hl with
        | [a, b], _ => exact ⟨a, b, rfl⟩
      have he : evalV (.mk 27 c n t g [a, b]) row = (if (evalV a row).k = 0 then (evalV b row) else (evalV a row)) := by simp [evalV, show cntd 27 2 = true from by decide, evalAll, applyV, at0, at1]
      rw [he]
      by_cases h3 : (evalV a row).k = 0
      · rw [if_pos h3]
        simp [rvF, V.c, V.a, h3]
        (repeat' (first | contradiction | exact .of (by kernel_rfl) | refine And.intro ?_ ?_ | intro _ | (refine agrd_cases (fun h => ?_) (fun h => ?_) <;> (have h' := h; (try simp at h'); first | done | simp [h, h', h3] | simp [h3]))))
      · rw [if_neg h3]
        simp [rvF, V.c, V.a, h3]
        (repeat' (first | contradiction | exact .of (by kernel_rfl) | refine And.intro ?_ ?_ | intro _ | (refine agrd_cases (fun h => ?_) (fun h => ?_) <;> (have h' := h; (try simp at h'); first | done | simp [h, h', h3] | simp [h3]))))
theorem re_28 (row : List V) (hrow : row.length ≤ 1000) (c n g : Int) (t : List UInt8) (ks : List Ex) (hk : ks.length ≤ 12)
    (hrec : ∀ e ∈ ks, Cf En 21 [e.a, .d (.sl (row.map V.c))] [] (evalV e row).a []) (hcn : cntd 28 ks.length = true) :
    Cf En 21 [(Ex.mk 28 c n t g ks).a, .d (.sl (row.map V.c))] [] (evalV (.mk 28 c n t g ks) row).a [] := by
    refine cf_intro mix (fn := Tryz.f21) (by kernel_rfl) rfl (by kernel_rfl) (by decide) (by simp) ?_
    have hkc := kids_cntd 28 ks.length (by decide)
    simp [Ex.a, Ex.c, kidsC_map]
    (repeat' (first | contradiction | exact .of (by kernel_rfl) | refine And.intro ?_ ?_ | intro _ | (refine agrd_cases (fun h => ?_) (fun h => ?_) <;> (have h' := h; (try simp at h'); first | done | simp [h, h'] | simp))))
    refine acallT_plain (r_kids 28 ks.length) (by simp) ?_
    rw [hkc, hcn]
    simp
    (repeat' (first | contradiction | exact .of (by kernel_rfl) | refine And.intro ?_ ?_ | intro _ | (refine agrd_cases (fun h => ?_) (fun h => ?_) <;> (have h' := h; (try simp at h'); first | done | simp [h, h'] | simp))))
    refine aloopT mix (by decide) (rvF 28 c n g t ks row) (fun i : Nat => i ≤ ks.length) (fun i => ks.length - i) 0 (by simp) (sub_mk [(1, _), (2, _), (4, _), (5, _), (6, _)] [(2, 2, _), (4, 4, _)] ⟨by simp, by simp, by simp [renOf, Blk.live], by simp⟩ (by simp [renOf])) ?_
    intro i hi
    by_cases hlt : i < ks.length
    · have hgi : ks[i]? = some ks[i] := List.getElem?_eq_getElem hlt
      have c1 := Ex.clen ks[i]
      have k1 := Ex.ctake ks[i]
      have hr := hrec ks[i] (List.getElem_mem hlt)
      have htk : List.take (i + 1) (List.map (fun e => (evalV e row).c) ks) = List.take i (List.map (fun e => (evalV e row).c) ks) ++ [(evalV ks[i] row).c] := by
        rw [List.take_add_one, List.getElem?_map, hgi]; rfl
      simp only [V.c] at htk
      cases i with
      | zero =>
        have hlt2 : (0 : Int) < ks.length := by omega
        simp [rvF, hlt, hlt2, hgi, c1, k1]
        (repeat' (first | contradiction | exact .of (by kernel_rfl) | refine And.intro ?_ ?_ | intro _ | (refine agrd_cases (fun h => ?_) (fun h => ?_) <;> (have h' := h; (try simp at h'); first | done | simp [h, h'] | simp))))
        refine acallT_plain hr (by simp [Ex.a]) ?_
        simp [V.a]
        (repeat' (first | contradiction | exact .of (by kernel_rfl) | refine And.intro ?_ ?_ | intro _ | (refine agrd_cases (fun h => ?_) (fun h => ?_) <;> (have h' := h; (try simp at h'); first | done | simp [h, h'] | simp))))
        refine ⟨1, hlt, ?_, ?_⟩
        · refine sub_mk [(1, _), (2, _), (4, _), (5, _), (6, _)] [(2, 2, _), (4, 4, _), (900, 43, _)] ⟨by simp, by simp, ?_, by simp⟩ ?_
          · simp only [Nat.zero_add, List.take_zero, List.nil_append] at htk
            simp [renOf, Blk.live, htk, V.c]
          · simp [renOf]
            exact wrap_in (by omega) (by omega)
        · simp; omega
      | succ i =>
        have hlt2 : ((i + 1 : Nat) : Int) < ks.length := by omega
        have hlt3 : (i : Int) + 1 < ks.length := by omega
        have hp : (0 : Int) ≤ (i : Int) + 1 := by omega
        have hmin : min (i + 1) ks.length = i + 1 := by omega
        have s1 : (i + 1 + 1) * 32 ≤ 140737488355328 := by omega
        have s2 : i ≤ 9223372036854775805 := by omega
        simp [rvF, hlt, hlt2, hlt3, hp, hgi, c1, k1]
        (repeat' (first | contradiction | exact .of (by kernel_rfl) | refine And.intro ?_ ?_ | intro _ | (refine agrd_cases (fun h => ?_) (fun h => ?_) <;> (have h' := h; (try simp at h'); first | done | simp [h, h'] | simp))))
        refine acallT_plain hr (by simp [Ex.a]) ?_
        simp [V.a, hmin, s1, s2]
        (repeat' (first | contradiction | exact .of (by kernel_rfl) | refine And.intro ?_ ?_ | intro _ | (refine agrd_cases (fun h => ?_) (fun h => ?_) <;> (have h' := h; (try simp at h'); first | done | simp [h, h'] | simp))))
        refine ⟨i + 2, by omega, ?_, ?_⟩
        · refine sub_mk [(1, _), (2, _), (4, _), (5, _), (6, _)] [(2, 2, _), (4, 4, _), (900, 43, _)] ⟨by simp, by simp, ?_, by simp⟩ ?_
          · simp [renOf, Blk.live, htk, V.c]
          · simp [renOf]
            rw [wrap_in (by omega) (by omega)]
        · simp; omega
    have hie : i = ks.length := by omega
    subst hie
    clear hrec hkc hi hlt
    · cases ks with
      | nil => simp [cntd, isOp, opOf, ops] at hcn
      | cons a ks => cases ks with
        | nil => simp [cntd, isOp, opOf, ops] at hcn
        | cons b ks =>
          have he : evalV (.mk 28 c n t g (a :: b :: ks)) row = inF (eqV (evalV a row) (evalV b row)) (evalV a row) (evalAll ks row) := by
            have hc28 : cntd 28 (ks.length + 2) = true := by simpa using hcn
            simp [evalV, hc28, evalAll, applyV, at0, inV_cons]
          rw [he]
          have hys : evalAll ks row = ks.map fun e => evalV e row := evalAll_map ks row
          have htk : List.take ks.length (List.map (fun e => (evalV e row).c) ks) = List.map (fun e => (evalV e row).c) ks := List.take_of_length_le (by simp)
          simp only [V.c] at htk
          have h12 : ks.length ≤ 12 := by simp at hk; omega
          simp [rvF, V.c, htk]
          (repeat' (first | contradiction | exact .of (by kernel_rfl) | refine And.intro ?_ ?_ | intro _ | (refine agrd_cases (fun h => ?_) (fun h => ?_) <;> (have h' := h; (try simp at h'); first | done | simp [h, h'] | simp))))
          refine acallT_plain (r_eq (evalV a row) (evalV b row)) (by simp [V.a]) ?_
          simp [V.a]
          (repeat' (first | contradiction | exact .of (by kernel_rfl) | refine And.intro ?_ ?_ | intro _ | (refine agrd_cases (fun h => ?_) (fun h => ?_) <;> (have h' := h; (try simp at h'); first | done | simp [h, h'] | simp))))
          refine aloopT mix (by decide) (fun j : Nat => { s := mkS [(4, .ptr 4 0 0), (5, .d (.sl ((evalV a row).c :: (evalV b row).c :: (evalAll ks row).map V.c))), (7, .ptr 7 0 0), (8, .d (.int .i64 (j + 2 : Nat)))], b := mkB [(4, 4, .var [.d (.int .i64 0), .d (.int .i64 0), .d (.str [])]), (7, 7, .var (inF (eqV (evalV a row) (evalV b row)) (evalV a row) ((evalAll ks row).take j)).a.cells)] }) (fun j : Nat => j ≤ ks.length) (fun j => ks.length - j) 0 (by simp) (sub_mk _ [(4, 4, _), (7, 7, _)] ⟨by simp, by simp, by simp [renOf, Blk.live, V.a, inF], by simp⟩ (by simp [renOf, V.c, hys, htk, Function.comp_def])) ?_
          intro j hj
          have hyl : (evalAll ks row).length = ks.length := by rw [hys, List.length_map]
          by_cases hlt : j < ks.length
          · have hg : (evalAll ks row)[j]? = some (evalV ks[j] row) := by rw [hys, List.getElem?_map, List.getElem?_eq_getElem hlt]; rfl
            have ht2 := inF_take (eqV (evalV a row) (evalV b row)) (evalV a row) (evalAll ks row) j _ hg
            have hlt' : (j : Int) < ks.length := by omega
            have hlt2 : (j : Int) + 2 < (ks.length : Int) + 1 + 1 := by omega
            have hp : (0 : Int) ≤ (j : Int) + 2 := by omega
            have htn : ((j : Int) + 2).toNat = j + 2 := by omega
            simp [hyl, hlt, hlt', hlt2, hp, htn, hg, V.c, V.a]
            (repeat' (first | contradiction | exact .of (by kernel_rfl) | refine And.intro ?_ ?_ | intro _ | (refine agrd_cases (fun h => ?_) (fun h => ?_) <;> (have h' := h; (try simp at h'); first | done | simp [h, h'] | simp))))
            obtain ⟨hjl, hgx⟩ := List.getElem?_eq_some_iff.1 hg
            refine acallT_plain (r_eq (evalV a row) (evalV ks[j] row)) (by simp [V.a, hgx]) ?_
            simp [V.a]
            refine acallT_plain (r_or (inF (eqV (evalV a row) (evalV b row)) (evalV a row) ((evalAll ks row).take j)) (eqV (evalV a row) (evalV ks[j] row))) (by simp [V.a]) ?_
            simp [V.a]
            (repeat' (first | contradiction | exact .of (by kernel_rfl) | refine And.intro ?_ ?_ | intro _ | (refine agrd_cases (fun h => ?_) (fun h => ?_) <;> (have h' := h; (try simp at h'); first | done | simp [h, h'] | simp))))
            refine ⟨j + 1, hlt, ?_, ?_⟩
            · refine sub_mk _ [(4, 4, _), (7, 7, _)] ⟨by simp, by simp, by simp [renOf, Blk.live, V.a, ht2], by simp⟩ ?_
              simp [renOf, V.c]
              rw [wrap_in (by omega) (by omega)]
              omega
            · simp; omega
          · have hje : j = ks.length := by omega
            subst hje
            have htk2 : (evalAll ks row).take ks.length = evalAll ks row := List.take_of_length_le (by omega)
            have hge : ¬ (ks.length : Int) + 2 < (ks.length : Int) + 1 + 1 := by omega
            simp [hyl, htk2, hge, V.a, V.c]
            (repeat' (first | contradiction | exact .of (by kernel_rfl) | refine And.intro ?_ ?_ | intro _ | (refine agrd_cases (fun h => ?_) (fun h => ?_) <;> (have h' := h; (try simp at h'); first | done | simp [h, h'] | simp))))
end Go.Proofs.Tryz
