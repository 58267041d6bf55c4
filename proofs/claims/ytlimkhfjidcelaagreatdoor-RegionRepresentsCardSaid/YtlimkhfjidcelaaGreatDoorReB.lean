/- The reference's Eval: some operations. -/
import Derived.Test.YtlimkhfjidcelaaGreatDoorRe0
set_option linter.all false
namespace Go.Proofs.Tryz
open Go.Ab
set_option maxRecDepth 100000
set_option maxHeartbeats 16000000

theorem re_10 (row : List V) (hrow : row.length ≤ 1000) (c n g : Int) (t : List UInt8) (ks : List Ex) (hk : ks.length ≤ 12)
    (hrec : ∀ e ∈ ks, Cf En 21 [e.a, .d (.sl (row.map V.c))] [] (evalV e row).a []) (hcn : cntd 10 ks.length = true) :
    Cf En 21 [(Ex.mk 10 c n t g ks).a, .d (.sl (row.map V.c))] [] (evalV (.mk 10 c n t g ks) row).a [] := by
    refine cf_intro mix (fn := Tryz.f21) (by kernel_rfl) rfl (by kernel_rfl) (by decide) (by simp) ?_
    have hkc := kids_cntd 10 ks.length (by decide)
    simp [Ex.a, Ex.c, kidsC_map]
    (repeat' (first | contradiction | exact .of (by kernel_rfl) | refine And.intro ?_ ?_ | intro _ | (refine agrd_cases (fun h => ?_) (fun h => ?_) <;> (have h' := h; (try simp at h'); first | done | simp [h, h'] | simp))))
    refine acallT_plain (r_kids 10 ks.length) (by simp) ?_
    rw [hkc, hcn]
    simp
    (repeat' (first | contradiction | exact .of (by kernel_rfl) | refine And.intro ?_ ?_ | intro _ | (refine agrd_cases (fun h => ?_) (fun h => ?_) <;> (have h' := h; (try simp at h'); first | done | simp [h, h'] | simp))))
    refine aloopT mix (by decide) (rvF 10 c n g t ks row) (fun i : Nat => i ≤ ks.length) (fun i => ks.length - i) 0 (by simp) (sub_mk [(1, _), (2, _), (4, _), (5, _), (6, _)] [(2, 2, _), (4, 4, _)] ⟨by simp, by simp, by simp [renOf, Blk.live], by simp⟩ (by simp [renOf])) ?_
    intro i hi
    by_cases hlt : i < ks.length
    · have hgi : ks[i]? = some ks[i] := List.getElem?_eq_getElem hlt
      have c1 := Ex.clen ks[i]
      have k1 := Ex.ctake ks[i]
      have hr := hrec ks[i] (List.getElem_mem hlt)
      have htk : List.take (i + 1) (List.map (fun e => (evalV e row).c) ks) = List.take i (List.map (fun e => (evalV e row).c) ks) ++ [(evalV ks[i] row).c] := by
        rw [List.take_add_one, List.getElem?_map, hgi]; rfl
      simp only [V.c] at htk
      cases i with
      | zero =>
        have hlt2 : (0 : Int) < ks.length := by omega
        simp [rvF, hlt, hlt2, hgi, c1, k1]
        (repeat' (first | contradiction | exact .of (by kernel_rfl) | refine And.intro ?_ ?_ | intro _ | (refine agrd_cases (fun h => ?_) (fun h => ?_) <;> (have h' := h; (try simp at h'); first | done | simp [h, h'] | simp))))
        refine acallT_plain hr (by simp [Ex.a]) ?_
        simp [V.a]
        (repeat' (first | contradiction | exact .of (by kernel_rfl) | refine And.intro ?_ ?_ | intro _ | (refine agrd_cases (fun h => ?_) (fun h => ?_) <;> (have h' := h; (try simp at h'); first | done | simp [h, h'] | simp))))
        refine ⟨1, hlt, ?_, ?_⟩
        · refine sub_mk [(1, _), (2, _), (4, _), (5, _), (6, _)] [(2, 2, _), (4, 4, _), (900, 43, _)] ⟨by simp, by simp, ?_, by simp⟩ ?_
          · simp only [Nat.zero_add, List.take_zero, List.nil_append] at htk
            simp [renOf, Blk.live, htk, V.c]
          · simp [renOf]
            exact wrap_in (by omega) (by omega)
        · simp; omega
      | succ i =>
        have hlt2 : ((i + 1 : Nat) : Int) < ks.length := by omega
        have hlt3 : (i : Int) + 1 < ks.length := by omega
        have hp : (0 : Int) ≤ (i : Int) + 1 := by omega
        have hmin : min (i + 1) ks.length = i + 1 := by omega
        have s1 : (i + 1 + 1) * 32 ≤ 140737488355328 := by omega
        have s2 : i ≤ 9223372036854775805 := by omega
        simp [rvF, hlt, hlt2, hlt3, hp, hgi, c1, k1]
        (repeat' (first | contradiction | exact .of (by kernel_rfl) | refine And.intro ?_ ?_ | intro _ | (refine agrd_cases (fun h => ?_) (fun h => ?_) <;> (have h' := h; (try simp at h'); first | done | simp [h, h'] | simp))))
        refine acallT_plain hr (by simp [Ex.a]) ?_
        simp [V.a, hmin, s1, s2]
        (repeat' (first | contradiction | exact .of (by kernel_rfl) | refine And.intro ?_ ?_ | intro _ | (refine agrd_cases (fun h => ?_) (fun h => ?_) <;> (have h' := h; (try simp at h'); first | done | simp [h, h'] | simp))))
        refine ⟨i + 2, by omega, ?_, ?_⟩
        · refine sub_mk [(1, _), (2, _), (4, _), (5, _), (6, _)] [(2, 2, _), (4, 4, _), (900, 43, _)] ⟨by simp, by simp, ?_, by simp⟩ ?_
          · simp [renOf, Blk.live, htk, V.c]
          · simp [renOf]
            rw [wrap_in (by omega) (by omega)]
        · simp; omega
    have hie : i = ks.length := by omega
    subst hie
    clear hrec hkc hi hlt
    · obtain ⟨a, b, rfl⟩ : ∃ a b, ks = [a, b] := by
        have hl : ks.length = 2 := by simp [cntd, isOp, opOf, ops] at hcn; omega
        match ks, hl with
        | [a, b], _ => exact ⟨a, b, rfl⟩
      have he : evalV (.mk 10 c n t g [a, b]) row = arV 10 (evalV a row) (evalV b row) := by simp [evalV, show cntd 10 2 = true from by decide, evalAll, applyV, at0, at1]
      rw [he]
      simp [rvF, V.c]
      (repeat' (first | contradiction | exact .of (by kernel_rfl) | refine And.intro ?_ ?_ | intro _ | (refine agrd_cases (fun h => ?_) (fun h => ?_) <;> (have h' := h; (try simp at h'); first | done | simp [h, h'] | simp))))
      refine acallT_plain (r_arith 10 (evalV a row) (evalV b row)) (by simp [V.a]) ?_
      simp [V.a]
      (repeat' (first | contradiction | exact .of (by kernel_rfl) | refine And.intro ?_ ?_ | intro _ | (refine agrd_cases (fun h => ?_) (fun h => ?_) <;> (have h' := h; (try simp at h'); first | done | simp [h, h'] | simp))))
theorem re_11 (row : List V) (hrow : row.length ≤ 1000) (c n g : Int) (t : List UInt8) (ks : List Ex) (hk : ks.length ≤ 12)
    (hrec : ∀ e ∈ ks, Cf En 21 [e.a, .d (.sl (row.map V.c))] [] (evalV e row).a []) (hcn : cntd 11 ks.length = true) :
    Cf En 21 [(Ex.mk 11 c n t g ks).a, .d (.sl (row.map V.c))] [] (evalV (.mk 11 c n t g ks) row).a [] := by
    refine cf_intro mix (fn := Tryz.f21) (by kernel_rfl) rfl (by kernel_rfl) (by decide) (by simp) ?_
    have hkc := kids_cntd 11 ks.length (by decide)
    simp [Ex.a, Ex.c, kidsC_map]
    (repeat' (first | contradiction | exact .of (by kernel_rfl) | refine And.intro ?_ ?_ | intro _ | (refine agrd_cases (fun h => ?_) (fun h => ?_) <;> (have h' := h; (try simp at h'); first | done | simp [h, h'] | simp))))
    refine acallT_plain (r_kids 11 ks.length) (by simp) ?_
    rw [hkc, hcn]
    simp
    (repeat' (first | contradiction | exact .of (by kernel_rfl) | refine And.intro ?_ ?_ | intro _ | (refine agrd_cases (fun h => ?_) (fun h => ?_) <;> (have h' := h; (try simp at h'); first | done | simp [h, h'] | simp))))
    refine aloopT mix (by decide) (rvF 11 c n g t ks row) (fun i : Nat => i ≤ ks.length) (fun i => ks.length - i) 0 (by simp) (sub_mk [(1, _), (2, _), (4, _), (5, _), (6, _)] [(2, 2, _), (4, 4, _)] ⟨by simp, by simp, by simp [renOf, Blk.live], by simp⟩ (by simp [renOf])) ?_
    intro i hi
    by_cases hlt : i < ks.length
    · have hgi : ks[i]? = some ks[i] := List.getElem?_eq_getElem hlt
      have c1 := Ex.clen ks[i]
      have k1 := Ex.ctake ks[i]
      have hr := hrec ks[i] (List.getElem_mem hlt)
      have htk : List.take (i + 1) (List.map (fun e => (evalV e row).c) ks) = List.take i (List.map (fun e => (evalV e row).c) ks) ++ [(evalV ks[i] row).c] := by
        rw [List.take_add_one, List.getElem?_map, hgi]; rfl
      simp only [V.c] at htk
      cases i with
      | zero =>
        have hlt2 : (0 : Int) < ks.length := by omega
        simp [rvF, hlt, hlt2, hgi, c1, k1]
        (repeat' (first | contradiction | exact .of (by kernel_rfl) | refine And.intro ?_ ?_ | intro _ | (refine agrd_cases (fun h => ?_) (fun h => ?_) <;> (have h' := h; (try simp at h'); first | done | simp [h, h'] | simp))))
        refine acallT_plain hr (by simp [Ex.a]) ?_
        simp [V.a]
        (repeat' (first | contradiction | exact .of (by kernel_rfl) | refine And.intro ?_ ?_ | intro _ | (refine agrd_cases (fun h => ?_) (fun h => ?_) <;> (have h' := h; (try simp at h'); first | done | simp [h, h'] | simp))))
        refine ⟨1, hlt, ?_, ?_⟩
        · refine sub_mk [(1, _), (2, _), (4, _), (5, _), (6, _)] [(2, 2, _), (4, 4, _), (900, 43, _)] ⟨by simp, by simp, ?_, by simp⟩ ?_
          · simp only [Nat.zero_add, List.take_zero, List.nil_append] at htk
            simp [renOf, Blk.live, htk, V.c]
          · simp [renOf]
            exact wrap_in (by omega) (by omega)
        · simp; omega
      | succ i =>
        have hlt2 : ((i + 1 : Nat) : Int) < ks.length := by omega
        have hlt3 : (i : Int) + 1 < ks.length := by omega
        have hp : (0 : Int) ≤ (i : Int) + 1 := by omega
        have hmin : min (i + 1) ks.length = i + 1 := by omega
        have s1 : (i + 1 + 1) * 32 ≤ 140737488355328 := by omega
        have s2 : i ≤ 9223372036854775805 := by omega
        simp [rvF, hlt, hlt2, hlt3, hp, hgi, c1, k1]
        (repeat' (first | contradiction | exact .of (by kernel_rfl) | refine And.intro ?_ ?_ | intro _ | (refine agrd_cases (fun h => ?_) (fun h => ?_) <;> (have h' := h; (try simp at h'); first | done | simp [h, h'] | simp))))
        refine acallT_plain hr (by simp [Ex.a]) ?_
        simp [V.a, hmin, s1, s2]
        (repeat' (first | contradiction | exact .of (by kernel_rfl) | refine And.intro ?_ ?_ | intro _ | (refine agrd_cases (fun h => ?_) (fun h => ?_) <;> (have h' := h; (try simp at h'); first | done | simp [h, h'] | simp))))
        refine ⟨i + 2, by omega, ?_, ?_⟩
        · refine sub_mk [(1, _), (2, _), (4, _), (5, _), (6, _)] [(2, 2, _), (4, 4, _), (900, 43, _)] ⟨by simp, by simp, ?_, by simp⟩ ?_
          · simp [renOf, Blk.live, htk, V.c]
          · simp [renOf]
            rw [wrap_in (by omega) (by omega)]
        · simp; omega
    have hie : i = ks.length := by omega
    subst hie
    clear hrec hkc hi hlt
    · obtain ⟨a, rfl⟩ : ∃ a, ks = [a] := by
        have hl : ks.length = 1 := by simp [cntd, isOp, opOf, ops] at hcn; omega
        match ks, hl with
        | [a], _ => exact ⟨a, rfl⟩
      have he : evalV (.mk 11 c n t g [a]) row = arV 7 ⟨1, 0, []⟩ (evalV a row) := by simp [evalV, show cntd 11 1 = true from by decide, evalAll, applyV, at0, at1]
      rw [he]
      simp [rvF, V.c]
      (repeat' (first | contradiction | exact .of (by kernel_rfl) | refine And.intro ?_ ?_ | intro _ | (refine agrd_cases (fun h => ?_) (fun h => ?_) <;> (have h' := h; (try simp at h'); first | done | simp [h, h'] | simp))))
      refine acallT_plain (r_arith 7 ⟨1, 0, []⟩ (evalV a row)) (by simp [V.a]) ?_
      simp [V.a]
      (repeat' (first | contradiction | exact .of (by kernel_rfl) | refine And.intro ?_ ?_ | intro _ | (refine agrd_cases (fun h => ?_) (fun h => ?_) <;> (have h' := h; (try simp at h'); first | done | simp [h, h'] | simp))))
theorem re_12 (row : List V) (hrow : row.length ≤ 1000) (c n g : Int) (t : List UInt8) (ks : List Ex) (hk : ks.length ≤ 12)
    (hrec : ∀ e ∈ ks, Cf En 21 [e.a, .d (.sl (row.map V.c))] [] (evalV e row).a []) (hcn : cntd 12 ks.length = true) :
    Cf En 21 [(Ex.mk 12 c n t g ks).a, .d (.sl (row.map V.c))] [] (evalV (.mk 12 c n t g ks) row).a [] := by
    refine cf_intro mix (fn := Tryz.f21) (by kernel_rfl) rfl (by kernel_rfl) (by decide) (by simp) ?_
    have hkc := kids_cntd 12 ks.length (by decide)
    simp [Ex.a, Ex.c, kidsC_map]
    (repeat' (first | contradiction | exact .of (by kernel_rfl) | refine And.intro ?_ ?_ | intro _ | (refine agrd_cases (fun h => ?_) (fun h => ?_) <;> (have h' := h; (try simp at h'); first | done | simp [h, h'] | simp))))
    refine acallT_plain (r_kids 12 ks.length) (by simp) ?_
    rw [hkc, hcn]
    simp
    (repeat' (first | contradiction | exact .of (by kernel_rfl) | refine And.intro ?_ ?_ | intro _ | (refine agrd_cases (fun h => ?_) (fun h => ?_) <;> (have h' := h; (try simp at h'); first | done | simp [h, h'] | simp))))
    refine aloopT mix (by decide) (rvF 12 c n g t ks row) (fun i : Nat => i ≤ ks.length) (fun i => ks.length - i) 0 (by simp) (sub_mk [(1, _), (2, _), (4, _), (5, _), (6, _)] [(2, 2, _), (4, 4, _)] ⟨by simp, by simp, by simp [renOf, Blk.live], by simp⟩ (by simp [renOf])) ?_
    intro i hi
    by_cases hlt : i < ks.length
    · have hgi : ks[i]? = some ks[i] := List.getElem?_eq_getElem hlt
      have c1 := Ex.clen ks[i]
      have k1 := Ex.ctake ks[i]
      have hr := hrec ks[i] (List.getElem_mem hlt)
      have htk : List.take (i + 1) (List.map (fun e => (evalV e row).c) ks) = List.take i (List.map (fun e => (evalV e row).c) ks) ++ [(evalV ks[i] row).c] := by
        rw [List.take_add_one, List.getElem?_map, hgi]; rfl
      simp only [V.c] at htk
      cases i with
      | zero =>
        have hlt2 : (0 : Int) < ks.length := by omega
        simp [rvF, hlt, hlt2, hgi, c1, k1]
        (repeat' (first | contradiction | exact .of (by kernel_rfl) | refine And.intro ?_ ?_ | intro _ | (refine agrd_cases (fun h => ?_) (fun h => ?_) <;> (have h' := h; (try simp at h'); first | done | simp [h, h'] | simp))))
        refine acallT_plain hr (by simp [Ex.a]) ?_
        simp [V.a]
        (repeat' (first | contradiction | exact .of (by kernel_rfl) | refine And.intro ?_ ?_ | intro _ | (refine agrd_cases (fun h => ?_) (fun h => ?_) <;> (have h' := h; (try simp at h'); first | done | simp [h, h'] | simp))))
        refine ⟨1, hlt, ?_, ?_⟩
        · refine sub_mk [(1, _), (2, _), (4, _), (5, _), (6, _)] [(2, 2, _), (4, 4, _), (900, 43, _)] ⟨by simp, by simp, ?_, by simp⟩ ?_
          · simp only [Nat.zero_add, List.take_zero, List.nil_append] at htk
            simp [renOf, Blk.live, htk, V.c]
          · simp [renOf]
            exact wrap_in (by omega) (by omega)
        · simp; omega
      | succ i =>
        have hlt2 : ((i + 1 : Nat) : Int) < ks.length := by omega
        have hlt3 : (i : Int) + 1 < ks.length := by omega
        have hp : (0 : Int) ≤ (i : Int) + 1 := by omega
        have hmin : min (i + 1) ks.length = i + 1 := by omega
        have s1 : (i + 1 + 1) * 32 ≤ 140737488355328 := by omega
        have s2 : i ≤ 9223372036854775805 := by omega
        simp [rvF, hlt, hlt2, hlt3, hp, hgi, c1, k1]
        (repeat' (first | contradiction | exact .of (by kernel_rfl) | refine And.intro ?_ ?_ | intro _ | (refine agrd_cases (fun h => ?_) (fun h => ?_) <;> (have h' := h; (try simp at h'); first | done | simp [h, h'] | simp))))
        refine acallT_plain hr (by simp [Ex.a]) ?_
        simp [V.a, hmin, s1, s2]
        (repeat' (first | contradiction | exact .of (by kernel_rfl) | refine And.intro ?_ ?_ | intro _ | (refine agrd_cases (fun h => ?_) (fun h => ?_) <;> (have h' := h; (try simp at h'); first | done | simp [h, h'] | simp))))
        refine ⟨i + 2, by omega, ?_, ?_⟩
        · refine sub_mk [(1, _), (2, _), (4, _), (5, _), (6, _)] [(2, 2, _), (4, 4, _), (900, 43, _)] ⟨by simp, by simp, ?_, by simp⟩ ?_
          · simp [renOf, Blk.live, htk, V.c]
          · simp [renOf]
            rw [wrap_in (by omega) (by omega)]
        · simp; omega
    have hie : i = ks.length := by omega
    subst hie
    clear hrec hkc hi hlt
    · obtain ⟨a, b, rfl⟩ : ∃ a b, ks = [a, b] := by
        have hl : ks.length = 2 := by simp [cntd, isOp, opOf, ops] at hcn; omega
        match ks, hl with
        | [a, b], _ => exact ⟨a, b, rfl⟩
      have he : evalV (.mk 12 c n t g [a, b]) row = arV 12 (evalV a row) (evalV b row) := by simp [evalV, show cntd 12 2 = true from by decide, evalAll, applyV, at0, at1]
      rw [he]
      simp [rvF, V.c]
      (repeat' (first | contradiction | exact .of (by kernel_rfl) | refine And.intro ?_ ?_ | intro _ | (refine agrd_cases (fun h => ?_) (fun h => ?_) <;> (have h' := h; (try simp at h'); first | done | simp [h, h'] | simp))))
      refine acallT_plain (r_arith 12 (evalV a row) (evalV b row)) (by simp [V.a]) ?_
      simp [V.a]
      (repeat' (first | contradiction | exact .of (by kernel_rfl) | refine And.intro ?_ ?_ | intro _ | (refine agrd_cases (fun h => ?_) (fun h => ?_) <;> (have h' := h; (try simp at h'); first | done | simp [h, h'] | simp))))
theorem re_13 (row : List V) (hrow : row.length ≤ 1000) (c n g : Int) (t : List UInt8) (ks : List Ex) (hk : ks.length ≤ 12)
    (hrec : ∀ e ∈ ks, Cf En 21 [e.a, .d (.sl (row.map V.c))] [] (evalV e row).a []) (hcn : cntd 13 ks.length = true) :
    Cf En 21 [(Ex.mk 13 c n t g ks).a, .d (.sl (row.map V.c))] [] (evalV (.mk 13 c n t g ks) row).a [] := by
    refine cf_intro mix (fn := Tryz.f21) (by kernel_rfl) rfl (by kernel_rfl) (by decide) (by simp) ?_
    have hkc := kids_cntd 13 ks.length (by decide)
    simp [Ex.a, Ex.c, kidsC_map]
    (repeat' (first | contradiction | exact .of (by kernel_rfl) | refine And.intro ?_ ?_ | intro _ | (refine agrd_cases (fun h => ?_) (fun h => ?_) <;> (have h' := h; (try simp at h'); first | done | simp [h, h'] | simp))))
    refine acallT_plain (r_kids 13 ks.length) (by simp) ?_
    rw [hkc, hcn]
    simp
    (repeat' (first | contradiction | exact .of (by kernel_rfl) | refine And.intro ?_ ?_ | intro _ | (refine agrd_cases (fun h => ?_) (fun h => ?_) <;> (have h' := h; (try simp at h'); first | done | simp [h, h'] | simp))))
    refine aloopT mix (by decide) (rvF 13 c n g t ks row) (fun i : Nat => i ≤ ks.length) (fun i => ks.length - i) 0 (by simp) (sub_mk [(1, _), (2, _), (4, _), (5, _), (6, _)] [(2, 2, _), (4, 4, _)] ⟨by simp, by simp, by simp [renOf, Blk.live], by simp⟩ (by simp [renOf])) ?_
    intro i hi
    by_cases hlt : i < ks.length
    · have hgi : ks[i]? = some ks[i] := List.getElem?_eq_getElem hlt
      have c1 := Ex.clen ks[i]
      have k1 := Ex.ctake ks[i]
      have hr := hrec ks[i] (List.getElem_mem hlt)
      have htk : List.take (i + 1) (List.map (fun e => (evalV e row).c) ks) = List.take i (List.map (fun e => (evalV e row).c) ks) ++ [(evalV ks[i] row).c] := by
        rw [List.take_add_one, List.getElem?_map, hgi]; rfl
      simp only [V.c] at htk
      cases i with
      | zero =>
        have hlt2 : (0 : Int) < ks.length := by omega
        simp [rvF, hlt, hlt2, hgi, c1, k1]
        (repeat' (first | contradiction | exact .of (by kernel_rfl) | refine And.intro ?_ ?_ | intro _ | (refine agrd_cases (fun h => ?_) (fun h => ?_) <;> (have h' := h; (try simp at h'); first | done | simp [h, h'] | simp))))
        refine acallT_plain hr (by simp [Ex.a]) ?_
        simp [V.a]
        (repeat' (first | contradiction | exact .of (by kernel_rfl) | refine And.intro ?_ ?_ | intro _ | (refine agrd_cases (fun h => ?_) (fun h => ?_) <;> (have h' := h; (try simp at h'); first | done | simp [h, h'] | simp))))
        refine ⟨1, hlt, ?_, ?_⟩
        · refine sub_mk [(1, _), (2, _), (4, _), (5, _), (6, _)] [(2, 2, _), (4, 4, _), (900, 43, _)] ⟨by simp, by simp, ?_, by simp⟩ ?_
          · simp only [Nat.zero_add, List.take_zero, List.nil_append] at htk
            simp [renOf, Blk.live, htk, V.c]
          · simp [renOf]
            exact wrap_in (by omega) (by omega)
        · simp; omega
      | succ i =>
        have hlt2 : ((i + 1 : Nat) : Int) < ks.length := by omega
        have hlt3 : (i : Int) + 1 < ks.length := by omega
        have hp : (0 : Int) ≤ (i : Int) + 1 := by omega
        have hmin : min (i + 1) ks.length = i + 1 := by omega
        have s1 : (i + 1 + 1) * 32 ≤ 140737488355328 := by omega
        have s2 : i ≤ 9223372036854775805 := by omega
        simp [rvF, hlt, hlt2, hlt3, hp, hgi, c1, k1]
        (repeat' (first | contradiction | exact .of (by kernel_rfl) | refine And.intro ?_ ?_ | intro _ | (refine agrd_cases (fun h => ?_) (fun h => ?_) <;> (have h' := h; (try simp at h'); first | done | simp [h, h'] | simp))))
        refine acallT_plain hr (by simp [Ex.a]) ?_
        simp [V.a, hmin, s1, s2]
        (repeat' (first | contradiction | exact .of (by kernel_rfl) | refine And.intro ?_ ?_ | intro _ | (refine agrd_cases (fun h => ?_) (fun h => ?_) <;> (have h' := h; (try simp at h'); first | done | simp [h, h'] | simp))))
        refine ⟨i + 2, by omega, ?_, ?_⟩
        · refine sub_mk [(1, _), (2, _), (4, _), (5, _), (6, _)] [(2, 2, _), (4, 4, _), (900, 43, _)] ⟨by simp, by simp, ?_, by simp⟩ ?_
          · simp [renOf, Blk.live, htk, V.c]
          · simp [renOf]
            rw [wrap_in (by omega) (by omega)]
        · simp; omega
    have hie : i = ks.length := by omega
    subst hie
    clear hrec hkc hi hlt
    · obtain ⟨a, rfl⟩ : ∃ a, ks = [a] := by
        have hl : ks.length = 1 := by simp [cntd, isOp, opOf, ops] at hcn; omega
        match ks, hl with
        | [a], _ => exact ⟨a, rfl⟩
      have he : evalV (.mk 13 c n t g [a]) row = (if (evalV a row).k = 3 then ⟨1, (evalV a row).t.length, []⟩ else nulV) := by simp [evalV, show cntd 13 1 = true from by decide, evalAll, applyV, at0, at1]
      rw [he]
      by_cases h3 : (evalV a row).k = 3
      · rw [if_pos h3]
        simp [rvF, V.c, V.a, h3]
        (repeat' (first | contradiction | exact .of (by kernel_rfl) | refine And.intro ?_ ?_ | intro _ | (refine agrd_cases (fun h => ?_) (fun h => ?_) <;> (have h' := h; (try simp at h'); first | done | simp [h, h', h3] | simp [h3]))))
      · rw [if_neg h3]
        simp [rvF, V.c, V.a, h3, nulV]
        (repeat' (first | contradiction | exact .of (by kernel_rfl) | refine And.intro ?_ ?_ | intro _ | (refine agrd_cases (fun h => ?_) (fun h => ?_) <;> (have h' := h; (try simp at h'); first | done | simp [h, h', h3] | simp [h3]))))
theorem re_14 (row : List V) (hrow : row.length ≤ 1000) (c n g : Int) (t : List UInt8) (ks : List Ex) (hk : ks.length ≤ 12)
    (hrec : ∀ e ∈ ks, Cf En 21 [e.a, .d (.sl (row.map V.c))] [] (evalV e row).a []) (hcn : cntd 14 ks.length = true) :
    Cf En 21 [(Ex.mk 14 c n t g ks).a, .d (.sl (row.map V.c))] [] (evalV (.mk 14 c n t g ks) row).a [] := by
    refine cf_intro mix (fn := Tryz.f21) (by kernel_rfl) rfl (by kernel_rfl) (by decide) (by simp) ?_
    have hkc := kids_cntd 14 ks.length (by decide)
    simp [Ex.a, Ex.c, kidsC_map]
    (repeat' (first | contradiction | exact .of (by kernel_rfl) | refine And.intro ?_ ?_ | intro _ | (refine agrd_cases (fun h => ?_) (fun h => ?_) <;> (have h' := h; (try simp at h'); first | done | simp [h, h'] | simp))))
    refine acallT_plain (r_kids 14 ks.length) (by simp) ?_
    rw [hkc, hcn]
    simp
    (repeat' (first | contradiction | exact .of (by kernel_rfl) | refine And.intro ?_ ?_ | intro _ | (refine agrd_cases (fun h => ?_) (fun h => ?_) <;> (have h' := h; (try simp at h'); first | done | simp [h, h'] | simp))))
    refine aloopT mix (by decide) (rvF 14 c n g t ks row) (fun i : Nat => i ≤ ks.length) (fun i => ks.length - i) 0 (by simp) (sub_mk [(1, _), (2, _), (4, _), (5, _), (6, _)] [(2, 2, _), (4, 4, _)] ⟨by simp, by simp, by simp [renOf, Blk.live], by simp⟩ (by simp [renOf])) ?_
    intro i hi
    by_cases hlt : i < ks.length
    · have hgi : ks[i]? = some ks[i] := List.getElem?_eq_getElem hlt
      have c1 := Ex.clen ks[i]
      have k1 := Ex.ctake ks[i]
      have hr := hrec ks[i] (List.getElem_mem hlt)
      have htk : List.take (i + 1) (List.map (fun e => (evalV e row).c) ks) = List.take i (List.map (fun e => (evalV e row).c) ks) ++ [(evalV ks[i] row).c] := by
        rw [List.take_add_one, List.getElem?_map, hgi]; rfl
      simp only [V.c] at htk
      cases i with
      | zero =>
        have hlt2 : (0 : Int) < ks.length := by omega
        simp [rvF, hlt, hlt2, hgi, c1, k1]
        (repeat' (first | contradiction | exact .of (by kernel_rfl) | refine And.intro ?_ ?_ | intro _ | (refine agrd_cases (fun h => ?_) (fun h => ?_) <;> (have h' := h; (try simp at h'); first | done | simp [h, h'] | simp))))
        refine acallT_plain hr (by simp [Ex.a]) ?_
        simp [V.a]
        (repeat' (first | contradiction | exact .of (by kernel_rfl) | refine And.intro ?_ ?_ | intro _ | (refine agrd_cases (fun h => ?_) (fun h => ?_) <;> (have h' := h; (try simp at h'); first | done | simp [h, h'] | simp))))
        refine ⟨1, hlt, ?_, ?_⟩
        · refine sub_mk [(1, _), (2, _), (4, _), (5, _), (6, _)] [(2, 2, _), (4, 4, _), (900, 43, _)] ⟨by simp, by simp, ?_, by simp⟩ ?_
          · simp only [Nat.zero_add, List.take_zero, List.nil_append] at htk
            simp [renOf, Blk.live, htk, V.c]
          · simp [renOf]
            exact wrap_in (by omega) (by omega)
        · simp; omega
      | succ i =>
        have hlt2 : ((i + 1 : Nat) : Int) < ks.length := by omega
        have hlt3 : (i : Int) + 1 < ks.length := by omega
        have hp : (0 : Int) ≤ (i : Int) + 1 := by omega
        have hmin : min (i + 1) ks.length = i + 1 := by omega
        have s1 : (i + 1 + 1) * 32 ≤ 140737488355328 := by omega
        have s2 : i ≤ 9223372036854775805 := by omega
        simp [rvF, hlt, hlt2, hlt3, hp, hgi, c1, k1]
        (repeat' (first | contradiction | exact .of (by kernel_rfl) | refine And.intro ?_ ?_ | intro _ | (refine agrd_cases (fun h => ?_) (fun h => ?_) <;> (have h' := h; (try simp at h'); first | done | simp [h, h'] | simp))))
        refine acallT_plain hr (by simp [Ex.a]) ?_
        simp [V.a, hmin, s1, s2]
        (repeat' (first | contradiction | exact .of (by kernel_rfl) | refine And.intro ?_ ?_ | intro _ | (refine agrd_cases (fun h => ?_) (fun h => ?_) <;> (have h' := h; (try simp at h'); first | done | simp [h, h'] | simp))))
        refine ⟨i + 2, by omega, ?_, ?_⟩
        · refine sub_mk [(1, _), (2, _), (4, _), (5, _), (6, _)] [(2, 2, _), (4, 4, _), (900, 43, _)] ⟨by simp, by simp, ?_, by simp⟩ ?_
          · simp [renOf, Blk.live, htk, V.c]
          · simp [renOf]
            rw [wrap_in (by omega) (by omega)]
        · simp; omega
    have hie : i = ks.length := by omega
    subst hie
    clear hrec hkc hi hlt
    · obtain ⟨a, b, rfl⟩ : ∃ a b, ks = [a, b] := by
        have hl : ks.length = 2 := by simp [cntd, isOp, opOf, ops] at hcn; omega
        match ks, hl with
        | [a, b], _ => exact ⟨a, b, rfl⟩
      have he : evalV (.mk 14 c n t g [a, b]) row = eqV (evalV a row) (evalV b row) := by simp [evalV, show cntd 14 2 = true from by decide, evalAll, applyV, at0, at1]
      rw [he]
      simp [rvF, V.c]
      (repeat' (first | contradiction | exact .of (by kernel_rfl) | refine And.intro ?_ ?_ | intro _ | (refine agrd_cases (fun h => ?_) (fun h => ?_) <;> (have h' := h; (try simp at h'); first | done | simp [h, h'] | simp))))
      refine acallT_plain (r_eq (evalV a row) (evalV b row)) (by simp [V.a]) ?_
      simp [V.a]
      (repeat' (first | contradiction | exact .of (by kernel_rfl) | refine And.intro ?_ ?_ | intro _ | (refine agrd_cases (fun h => ?_) (fun h => ?_) <;> (have h' := h; (try simp at h'); first | done | simp [h, h'] | simp))))
theorem re_15 (row : List V) (hrow : row.length ≤ 1000) (c n g : Int) (t : List UInt8) (ks : List Ex) (hk : ks.length ≤ 12)
    (hrec : ∀ e ∈ ks, Cf En 21 [e.a, .d (.sl (row.map V.c))] [] (evalV e row).a []) (hcn : cntd 15 ks.length = true) :
    Cf En 21 [(Ex.mk 15 c n t g ks).a, .d (.sl (row.map V.c))] [] (evalV (.mk 15 c n t g ks) row).a [] := by
    refine cf_intro mix (fn := Tryz.f21) (by kernel_rfl) rfl (by kernel_rfl) (by decide) (by simp) ?_
    have hkc := kids_cntd 15 ks.length (by decide)
    simp [Ex.a, Ex.c, kidsC_map]
    (repeat' (first | contradiction | exact .of (by kernel_rfl) | refine And.intro ?_ ?_ | intro _ | (refine agrd_cases (fun h => ?_) (fun h => ?_) <;> (have h' := h; (try simp at h'); first | done | simp [h, h'] | simp))))
    refine acallT_plain (r_kids 15 ks.length) (by simp) ?_
    rw [hkc, hcn]
    simp
    (repeat' (first | contradiction | exact .of (by kernel_rfl) | refine And.intro ?_ ?_ | intro _ | (refine agrd_cases (fun h => ?_) (fun h => ?_) <;> (have h' := h; (try simp at h'); first | done | simp [h, h'] | simp))))
    refine aloopT mix (by decide) (rvF 15 c n g t ks row) (fun i : Nat => i ≤ ks.length) (fun i => ks.length - i) 0 (by simp) (sub_mk [(1, _), (2, _), (4, _), (5, _), (6, _)] [(2, 2, _), (4, 4, _)] ⟨by simp, by simp, by simp [renOf, Blk.live], by simp⟩ (by simp [renOf])) ?_
    intro i hi
    by_cases hlt : i < ks.length
    · have hgi : ks[i]? = some ks[i] := List.getElem?_eq_getElem hlt
      have c1 := Ex.clen ks[i]
      have k1 := Ex.ctake ks[i]
      have hr := hrec ks[i] (List.getElem_mem hlt)
      have htk : List.take (i + 1) (List.map (fun e => (evalV e row).c) ks) = List.take i (List.map (fun e => (evalV e row).c) ks) ++ [(evalV ks[i] row).c] := by
        rw [List.take_add_one, List.getElem?_map, hgi]; rfl
      simp only [V.c] at htk
      cases i with
      | zero =>
        have hlt2 : (0 : Int) < ks.length := by omega
        simp [rvF, hlt, hlt2, hgi, c1, k1]
        (repeat' (first | contradiction | exact .of (by kernel_rfl) | refine And.intro ?_ ?_ | intro _ | (refine agrd_cases (fun h => ?_) (fun h => ?_) <;> (have h' := h; (try simp at h'); first | done | simp [h, h'] | simp))))
        refine acallT_plain hr (by simp [Ex.a]) ?_
        simp [V.a]
        (repeat' (first | contradiction | exact .of (by kernel_rfl) | refine And.intro ?_ ?_ | intro _ | (refine agrd_cases (fun h => ?_) (fun h => ?_) <;> (have h' := h; (try simp at h'); first | done | simp [h, h'] | simp))))
        refine ⟨1, hlt, ?_, ?_⟩
        · refine sub_mk [(1, _), (2, _), (4, _), (5, _), (6, _)] [(2, 2, _), (4, 4, _), (900, 43, _)] ⟨by simp, by simp, ?_, by simp⟩ ?_
          · simp only [Nat.zero_add, List.take_zero, List.nil_append] at htk
            simp [renOf, Blk.live, htk, V.c]
          · simp [renOf]
            exact wrap_in (by omega) (by omega)
        · simp; omega
      | succ i =>
        have hlt2 : ((i + 1 : Nat) : Int) < ks.length := by omega
        have hlt3 : (i : Int) + 1 < ks.length := by omega
        have hp : (0 : Int) ≤ (i : Int) + 1 := by omega
        have hmin : min (i + 1) ks.length = i + 1 := by omega
        have s1 : (i + 1 + 1) * 32 ≤ 140737488355328 := by omega
        have s2 : i ≤ 9223372036854775805 := by omega
        simp [rvF, hlt, hlt2, hlt3, hp, hgi, c1, k1]
        (repeat' (first | contradiction | exact .of (by kernel_rfl) | refine And.intro ?_ ?_ | intro _ | (refine agrd_cases (fun h => ?_) (fun h => ?_) <;> (have h' := h; (try simp at h'); first | done | simp [h, h'] | simp))))
        refine acallT_plain hr (by simp [Ex.a]) ?_
        simp [V.a, hmin, s1, s2]
        (repeat' (first | contradiction | exact .of (by kernel_rfl) | refine And.intro ?_ ?_ | intro _ | (refine agrd_cases (fun h => ?_) (fun h => ?_) <;> (have h' := h; (try simp at h'); first | done | simp [h, h'] | simp))))
        refine ⟨i + 2, by omega, ?_, ?_⟩
        · refine sub_mk [(1, _), (2, _), (4, _), (5, _), (6, _)] [(2, 2, _), (4, 4, _), (900, 43, _)] ⟨by simp, by simp, ?_, by simp⟩ ?_
          · simp [renOf, Blk.live, htk, V.c]
          · simp [renOf]
            rw [wrap_in (by omega) (by omega)]
        · simp; omega
    have hie : i = ks.length := by omega
    subst hie
    clear hrec hkc hi hlt
    · obtain ⟨a, b, rfl⟩ : ∃ a b, ks = [a, b] := by
        have hl : ks.length = 2 := by simp [cntd, isOp, opOf, ops] at hcn; omega
        match ks, hl with
        | [a, b], _ => exact ⟨a, b, rfl⟩
      have he : evalV (.mk 15 c n t g [a, b]) row = notV (eqV (evalV a row) (evalV b row)) := by simp [evalV, show cntd 15 2 = true from by decide, evalAll, applyV, at0, at1]
      rw [he]
      simp [rvF, V.c]
      (repeat' (first | contradiction | exact .of (by kernel_rfl) | refine And.intro ?_ ?_ | intro _ | (refine agrd_cases (fun h => ?_) (fun h => ?_) <;> (have h' := h; (try simp at h'); first | done | simp [h, h'] | simp))))
      refine acallT_plain (r_eq (evalV a row) (evalV b row)) (by simp [V.a]) ?_
      simp [V.a]
      (repeat' (first | contradiction | exact .of (by kernel_rfl) | refine And.intro ?_ ?_ | intro _ | (refine agrd_cases (fun h => ?_) (fun h => ?_) <;> (have h' := h; (try simp at h'); first | done | simp [h, h'] | simp))))
      refine acallT_plain (r_not (eqV (evalV a row) (evalV b row))) (by simp [V.a]) ?_
      simp [V.a]
      (repeat' (first | contradiction | exact .of (by kernel_rfl) | refine And.intro ?_ ?_ | intro _ | (refine agrd_cases (fun h => ?_) (fun h => ?_) <;> (have h' := h; (try simp at h'); first | done | simp [h, h'] | simp))))
theorem re_16 (row : List V) (hrow : row.length ≤ 1000) (c n g : Int) (t : List UInt8) (ks : List Ex) (hk : ks.length ≤ 12)
    (hrec : ∀ e ∈ ks, Cf En 21 [e.a, .d (.sl (row.map V.c))] [] (evalV e row).a []) (hcn : cntd 16 ks.length = true) :
    Cf En 21 [(Ex.mk 16 c n t g ks).a, .d (.sl (row.map V.c))] [] (evalV (.mk 16 c n t g ks) row).a [] := by
    refine cf_intro mix (fn := Tryz.f21) (by kernel_rfl) rfl (by kernel_rfl) (by decide) (by simp) ?_
    have hkc := kids_cntd 16 ks.length (by decide)
    simp [Ex.a, Ex.c, kidsC_map]
    (repeat' (first | contradiction | exact .of (by kernel_rfl) | refine And.intro ?_ ?_ | intro _ | (refine agrd_cases (fun h => ?_) (fun h => ?_) <;> (have h' := h; (try simp at h'); first | done | simp [h, h'] | simp))))
    refine acallT_plain (r_kids 16 ks.length) (by simp) ?_
    rw [hkc, hcn]
    simp
    (repeat' (first | contradiction | exact .of (by kernel_rfl) | refine And.intro ?_ ?_ | intro _ | (refine agrd_cases (fun h => ?_) (fun h => ?_) <;> (have h' := h; (try simp at h'); first | done | simp [h, h'] | simp))))
    refine aloopT mix (by decide) (rvF 16 c n g t ks row) (fun i : Nat => i ≤ ks.length) (fun i => ks.length - i) 0 (by simp) (sub_mk [(1, _), (2, _), (4, _), (5, _), (6, _)] [(2, 2, _), (4, 4, _)] ⟨by simp, by simp, by simp [renOf, Blk.live], by simp⟩ (by simp [renOf])) ?_
    intro i hi
    by_cases hlt : i < ks.length
    · have hgi : ks[i]? = some ks[i] := List.getElem?_eq_getElem hlt
      have c1 := Ex.clen ks[i]
      have k1 := Ex.ctake ks[i]
      have hr := hrec ks[i] (List.getElem_mem hlt)
      have htk : List.take (i + 1) (List.map (fun e => (evalV e row).c) ks) = List.take i (List.map (fun e => (evalV e row).c) ks) ++ [(evalV ks[i] row).c] := by
        rw [List.take_add_one, List.getElem?_map, hgi]; rfl
      simp only [V.c] at htk
      cases i with
      | zero =>
        have hlt2 : (0 : Int) < ks.length := by omega
        simp [rvF, hlt, hlt2, hgi, c1, k1]
        (repeat' (first | contradiction | exact .of (by kernel_rfl) | refine And.intro ?_ ?_ | intro _ | (refine agrd_cases (fun h => ?_) (fun h => ?_) <;> (have h' := h; (try simp at h'); first | done | simp [h, h'] | simp))))
        refine acallT_plain hr (by simp [Ex.a]) ?_
        simp [V.a]
        (repeat' (first | contradiction | exact .of (by kernel_rfl) | refine And.intro ?_ ?_ | intro _ | (refine agrd_cases (fun h => ?_) (fun h => ?_) <;> (have h' := h; (try simp at h'); first | done | simp [h, h'] | simp))))
        refine ⟨1, hlt, ?_, ?_⟩
        · refine sub_mk [(1, _), (2, _), (4, _), (5, _), (6, _)] [(2, 2, _), (4, 4, _), (900, 43, _)] ⟨by simp, by simp, ?_, by simp⟩ ?_
          · simp only [Nat.zero_add, List.take_zero, List.nil_append] at htk
            simp [renOf, Blk.live, htk, V.c]
          · simp [renOf]
            exact wrap_in (by omega) (by omega)
        · simp; omega
      | succ i =>
        have hlt2 : ((i + 1 : Nat) : Int) < ks.length := by omega
        have hlt3 : (i : Int) + 1 < ks.length := by omega
        have hp : (0 : Int) ≤ (i : Int) + 1 := by omega
        have hmin : min (i + 1) ks.length = i + 1 := by omega
        have s1 : (i + 1 + 1) * 32 ≤ 140737488355328 := by omega
        have s2 : i ≤ 9223372036854775805 := by omega
        simp [rvF, hlt, hlt2, hlt3, hp, hgi, c1, k1]
        (repeat' (first | contradiction | exact .of (by kernel_rfl) | refine And.intro ?_ ?_ | intro _ | (refine agrd_cases (fun h => ?_) (fun h => ?_) <;> (have h' := h; (try simp at h'); first | done | simp [h, h'] | simp))))
        refine acallT_plain hr (by simp [Ex.a]) ?_
        simp [V.a, hmin, s1, s2]
        (repeat' (first | contradiction | exact .of (by kernel_rfl) | refine And.intro ?_ ?_ | intro _ | (refine agrd_cases (fun h => ?_) (fun h => ?_) <;> (have h' := h; (try simp at h'); first | done | simp [h, h'] | simp))))
        refine ⟨i + 2, by omega, ?_, ?_⟩
        · refine sub_mk [(1, _), (2, _), (4, _), (5, _), (6, _)] [(2, 2, _), (4, 4, _), (900, 43, _)] ⟨by simp, by simp, ?_, by simp⟩ ?_
          · simp [renOf, Blk.live, htk, V.c]
          · simp [renOf]
            rw [wrap_in (by omega) (by omega)]
        · simp; omega
    have hie : i = ks.length := by omega
    subst hie
    clear hrec hkc hi hlt
    · obtain ⟨a, b, rfl⟩ : ∃ a b, ks = [a, b] := by
        have hl : ks.length = 2 := by simp [cntd, isOp, opOf, ops] at hcn; omega
        match ks, hl with
        | [a, b], _ => exact ⟨a, b, rfl⟩
      have he : evalV (.mk 16 c n t g [a, b]) row = lessV (evalV a row) (evalV b row) := by simp [evalV, show cntd 16 2 = true from by decide, evalAll, applyV, at0, at1]
      rw [he]
      simp [rvF, V.c]
      (repeat' (first | contradiction | exact .of (by kernel_rfl) | refine And.intro ?_ ?_ | intro _ | (refine agrd_cases (fun h => ?_) (fun h => ?_) <;> (have h' := h; (try simp at h'); first | done | simp [h, h'] | simp))))
      refine acallT_plain (r_less (evalV a row) (evalV b row)) (by simp [V.a]) ?_
      simp [V.a]
      (repeat' (first | contradiction | exact .of (by kernel_rfl) | refine And.intro ?_ ?_ | intro _ | (refine agrd_cases (fun h => ?_) (fun h => ?_) <;> (have h' := h; (try simp at h'); first | done | simp [h, h'] | simp))))
end Go.Proofs.Tryz
