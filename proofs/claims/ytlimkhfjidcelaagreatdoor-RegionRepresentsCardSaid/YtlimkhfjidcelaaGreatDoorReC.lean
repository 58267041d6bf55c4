/- The reference's Eval: some operations. -/
import Derived.Test.YtlimkhfjidcelaaGreatDoorRe0
set_option linter.all false
namespace Go.Proofs.Tryz
open Go.Ab
set_option maxRecDepth 100000
set_option maxHeartbeats 16000000

theorem re_17 (row : List V) (hrow : row.length ≤ 1000) (c n g : Int) (t : List UInt8) (ks : List Ex) (hk : ks.length ≤ 12)
    (hrec : ∀ e ∈ ks, Cf En 21 [e.a, .d (.sl (row.map V.c))] [] (evalV e row).a []) (hcn : cntd 17 ks.length = true) :
    Cf En 21 [(Ex.mk 17 c n t g ks).a, .d (.sl (row.map V.c))] [] (evalV (.mk 17 c n t g ks) row).a [] := by
    refine cf_intro mix (fn := Tryz.f21) (by kernel_rfl) rfl (by kernel_rfl) (by decide) (by simp) ?_
    have hkc := kids_cntd 17 ks.length (by decide)
    simp [Ex.a, Ex.c, kidsC_map]
    (repeat' (first | contradiction | exact .of (by kernel_rfl) | refine And.intro ?_ ?_ | intro _ | (refine agrd_cases (fun h => ?_) (fun h => ?_) <;> (have h' := h; (try simp at h'); first | done | simp [h, h'] | simp))))
    refine acallT_plain (r_kids 17 ks.length) (by simp) ?_
    rw [hkc, hcn]
    simp
    (repeat' (first | contradiction | exact .of (by kernel_rfl) | refine And.intro ?_ ?_ | intro _ | (refine agrd_cases (fun h => ?_) (fun h => ?_) <;> (have h' := h; (try simp at h'); first | done | simp [h, h'] | simp))))
    refine aloopT mix (by decide) (rvF 17 c n g t ks row) (fun i : Nat => i ≤ ks.length) (fun i => ks.length - i) 0 (by simp) (sub_mk [(1, _), (2, _), (4, _), (5, _), (6, _)] [(2, 2, _), (4, 4, _)] ⟨by simp, by simp, by simp [renOf, Blk.live], by simp⟩ (by simp [renOf])) ?_
    intro i hi
    by_cases hlt : i < ks.length
    · have hgi : ks[i]? = some ks[i] := List.getElem?_eq_getElem hlt
      have c1 := Ex.clen ks[i]
      have k1 := Ex.ctake ks[i]
      have hr := hrec ks[i] (List.getElem_mem hlt)
      have htk : List.take (i + 1) (List.map (fun e => (evalV e row).c) ks) = List.take i (List.map (fun e => (evalV e row).c) ks) ++ [(evalV ks[i] row).c] := by
        rw [List.take_add_one, List.getElem?_map, hgi]; rfl
      simp only [V.c] at htk
      cases i with
      | zero =>
        have hlt2 : (0 : Int) < ks.length := by omega
        simp [rvF, hlt, hlt2, hgi, c1, k1]
        (repeat' (first | contradiction | exact .of (by kernel_rfl) | refine And.intro ?_ ?_ | intro _ | (refine agrd_cases (fun h => ?_) (fun h => ?_) <;> (have h' := h; (try simp at h'); first | done | simp [h, h'] | simp))))
        refine acallT_plain hr (by simp [Ex.a]) ?_
        simp [V.a]
        (repeat' (first | contradiction | exact .of (by kernel_rfl) | refine And.intro ?_ ?_ | intro _ | (refine agrd_cases (fun h => ?_) (fun h => ?_) <;> (have h' := h; (try simp at h'); first | done | simp [h, h'] | simp))))
        refine ⟨1, hlt, ?_, ?_⟩
        · refine sub_mk [(1, _), (2, _), (4, _), (5, _), (6, _)] [(2, 2, _), (4, 4, _), (900, 43, _)] ⟨by simp, by simp, ?_, by simp⟩ ?_
          · simp only [Nat.zero_add, List.take_zero, List.nil_append] at htk
            simp [renOf, Blk.live, htk, V.c]
          · simp [renOf]
            exact wrap_in (by omega) (by omega)
        · simp; omega
      | succ i =>
        have hlt2 : ((i + 1 : Nat) : Int) < ks.length := by omega
        have hlt3 : (i : Int) + 1 < ks.length := by omega
        have hp : (0 : Int) ≤ (i : Int) + 1 := by omega
        have hmin : min (i + 1) ks.length = i + 1 := by omega
        have s1 : (i + 1 + 1) * 32 ≤ 140737488355328 := by omega
        have s2 : i ≤ 9223372036854775805 := by omega
        simp [rvF, hlt, hlt2, hlt3, hp, hgi, c1, k1]
        (repeat' (first | contradiction | exact .of (by kernel_rfl) | refine And.intro ?_ ?_ | intro _ | (refine agrd_cases (fun h => ?_) (fun h => ?_) <;> (have h' := h; (try simp at h'); first | done | simp [h, h'] | simp))))
        refine acallT_plain hr (by simp [Ex.a]) ?_
        simp [V.a, hmin, s1, s2]
        (repeat' (first | contradiction | exact .of (by kernel_rfl) | refine And.intro ?_ ?_ | intro _ | (refine agrd_cases (fun h => ?_) (fun h => ?_) <;> (have h' := h; (try simp at h'); first | done | simp [h, h'] | simp))))
        refine ⟨i + 2, by omega, ?_, ?_⟩
        · refine sub_mk [(1, _), (2, _), (4, _), (5, _), (6, _)] [(2, 2, _), (4, 4, _), (900, 43, _)] ⟨by simp, by simp, ?_, by simp⟩ ?_
          · simp [renOf, Blk.live, htk, V.c]
          · simp [renOf]
            rw [wrap_in (by omega) (by omega)]
        · simp; omega
    have hie : i = ks.length := by omega
    subst hie
    clear hrec hkc hi hlt
    · obtain ⟨a, b, rfl⟩ : ∃ a b, ks = [a, b] := by
        have hl : ks.length = 2 := by simp [cntd, isOp, opOf, ops] at hcn; omega
        match ks, hl with
        | [a, b], _ => exact ⟨a, b, rfl⟩
      have he : evalV (.mk 17 c n t g [a, b]) row = notV (lessV (evalV b row) (evalV a row)) := by simp [evalV, show cntd 17 2 = true from by decide, evalAll, applyV, at0, at1]
      rw [he]
      simp [rvF, V.c]
      (repeat' (first | contradiction | exact .of (by kernel_rfl) | refine And.intro ?_ ?_ | intro _ | (refine agrd_cases (fun h => ?_) (fun h => ?_) <;> (have h' := h; (try simp at h'); first | done | simp [h, h'] | simp))))
      refine acallT_plain (r_less (evalV b row) (evalV a row)) (by simp [V.a]) ?_
      simp [V.a]
      (repeat' (first | contradiction | exact .of (by kernel_rfl) | refine And.intro ?_ ?_ | intro _ | (refine agrd_cases (fun h => ?_) (fun h => ?_) <;> (have h' := h; (try simp at h'); first | done | simp [h, h'] | simp))))
      refine acallT_plain (r_not (lessV (evalV b row) (evalV a row))) (by simp [V.a]) ?_
      simp [V.a]
      (repeat' (first | contradiction | exact .of (by kernel_rfl) | refine And.intro ?_ ?_ | intro _ | (refine agrd_cases (fun h => ?_) (fun h => ?_) <;> (have h' := h; (try simp at h'); first | done | simp [h, h'] | simp))))
theorem re_18 (row : List V) (hrow : row.length ≤ 1000) (c n g : Int) (t : List UInt8) (ks : List Ex) (hk : ks.length ≤ 12)
    (hrec : ∀ e ∈ ks, Cf En 21 [e.a, .d (.sl (row.map V.c))] [] (evalV e row).a []) (hcn : cntd 18 ks.length = true) :
    Cf En 21 [(Ex.mk 18 c n t g ks).a, .d (.sl (row.map V.c))] [] (evalV (.mk 18 c n t g ks) row).a [] := by
    refine cf_intro mix (fn := Tryz.f21) (by kernel_rfl) rfl (by kernel_rfl) (by decide) (by simp) ?_
    have hkc := kids_cntd 18 ks.length (by decide)
    simp [Ex.a, Ex.c, kidsC_map]
    (repeat' (first | contradiction | exact .of (by kernel_rfl) | refine And.intro ?_ ?_ | intro _ | (refine agrd_cases (fun h => ?_) (fun h => ?_) <;> (have h' := h; (try simp at h'); first | done | simp [h, h'] | simp))))
    refine acallT_plain (r_kids 18 ks.length) (by simp) ?_
    rw [hkc, hcn]
    simp
    (repeat' (first | contradiction | exact .of (by kernel_rfl) | refine And.intro ?_ ?_ | intro _ | (refine agrd_cases (fun h => ?_) (fun h => ?_) <;> (have h' := h; (try simp at h'); first | done | simp [h, h'] | simp))))
    refine aloopT mix (by decide) (rvF 18 c n g t ks row) (fun i : Nat => i ≤ ks.length) (fun i => ks.length - i) 0 (by simp) (sub_mk [(1, _), (2, _), (4, _), (5, _), (6, _)] [(2, 2, _), (4, 4, _)] ⟨by simp, by simp, by simp [renOf, Blk.live], by simp⟩ (by simp [renOf])) ?_
    intro i hi
    by_cases hlt : i < ks.length
    · have hgi : ks[i]? = some ks[i] := List.getElem?_eq_getElem hlt
      have c1 := Ex.clen ks[i]
      have k1 := Ex.ctake ks[i]
      have hr := hrec ks[i] (List.getElem_mem hlt)
      have htk : List.take (i + 1) (List.map (fun e => (evalV e row).c) ks) = List.take i (List.map (fun e => (evalV e row).c) ks) ++ [(evalV ks[i] row).c] := by
        rw [List.take_add_one, List.getElem?_map, hgi]; rfl
      simp only [V.c] at htk
      cases i with
      | zero =>
        have hlt2 : (0 : Int) < ks.length := by omega
        simp [rvF, hlt, hlt2, hgi, c1, k1]
        (repeat' (first | contradiction | exact .of (by kernel_rfl) | refine And.intro ?_ ?_ | intro _ | (refine agrd_cases (fun h => ?_) (fun h => ?_) <;> (have h' := h; (try simp at h'); first | done | simp [h, h'] | simp))))
        refine acallT_plain hr (by simp [Ex.a]) ?_
        simp [V.a]
        (repeat' (first | contradiction | exact .of (by kernel_rfl) | refine And.intro ?_ ?_ | intro _ | (refine agrd_cases (fun h => ?_) (fun h => ?_) <;> (have h' := h; (try simp at h'); first | done | simp [h, h'] | simp))))
        refine ⟨1, hlt, ?_, ?_⟩
        · refine sub_mk [(1, _), (2, _), (4, _), (5, _), (6, _)] [(2, 2, _), (4, 4, _), (900, 43, _)] ⟨by simp, by simp, ?_, by simp⟩ ?_
          · simp only [Nat.zero_add, List.take_zero, List.nil_append] at htk
            simp [renOf, Blk.live, htk, V.c]
          · simp [renOf]
            exact wrap_in (by omega) (by omega)
        · simp; omega
      | succ i =>
        have hlt2 : ((i + 1 : Nat) : Int) < ks.length := by omega
        have hlt3 : (i : Int) + 1 < ks.length := by omega
        have hp : (0 : Int) ≤ (i : Int) + 1 := by omega
        have hmin : min (i + 1) ks.length = i + 1 := by omega
        have s1 : (i + 1 + 1) * 32 ≤ 140737488355328 := by omega
        have s2 : i ≤ 9223372036854775805 := by omega
        simp [rvF, hlt, hlt2, hlt3, hp, hgi, c1, k1]
        (repeat' (first | contradiction | exact .of (by kernel_rfl) | refine And.intro ?_ ?_ | intro _ | (refine agrd_cases (fun h => ?_) (fun h => ?_) <;> (have h' := h; (try simp at h'); first | done | simp [h, h'] | simp))))
        refine acallT_plain hr (by simp [Ex.a]) ?_
        simp [V.a, hmin, s1, s2]
        (repeat' (first | contradiction | exact .of (by kernel_rfl) | refine And.intro ?_ ?_ | intro _ | (refine agrd_cases (fun h => ?_) (fun h => ?_) <;> (have h' := h; (try simp at h'); first | done | simp [h, h'] | simp))))
        refine ⟨i + 2, by omega, ?_, ?_⟩
        · refine sub_mk [(1, _), (2, _), (4, _), (5, _), (6, _)] [(2, 2, _), (4, 4, _), (900, 43, _)] ⟨by simp, by simp, ?_, by simp⟩ ?_
          · simp [renOf, Blk.live, htk, V.c]
          · simp [renOf]
            rw [wrap_in (by omega) (by omega)]
        · simp; omega
    have hie : i = ks.length := by omega
    subst hie
    clear hrec hkc hi hlt
    · obtain ⟨a, b, rfl⟩ : ∃ a b, ks = [a, b] := by
        have hl : ks.length = 2 := by simp [cntd, isOp, opOf, ops] at hcn; omega
        match ks, hl with
        | [a, b], _ => exact ⟨a, b, rfl⟩
      have he : evalV (.mk 18 c n t g [a, b]) row = lessV (evalV b row) (evalV a row) := by simp [evalV, show cntd 18 2 = true from by decide, evalAll, applyV, at0, at1]
      rw [he]
      simp [rvF, V.c]
      (repeat' (first | contradiction | exact .of (by kernel_rfl) | refine And.intro ?_ ?_ | intro _ | (refine agrd_cases (fun h => ?_) (fun h => ?_) <;> (have h' := h; (try simp at h'); first | done | simp [h, h'] | simp))))
      refine acallT_plain (r_less (evalV b row) (evalV a row)) (by simp [V.a]) ?_
      simp [V.a]
      (repeat' (first | contradiction | exact .of (by kernel_rfl) | refine And.intro ?_ ?_ | intro _ | (refine agrd_cases (fun h => ?_) (fun h => ?_) <;> (have h' := h; (try simp at h'); first | done | simp [h, h'] | simp))))
theorem re_19 (row : List V) (hrow : row.length ≤ 1000) (c n g : Int) (t : List UInt8) (ks : List Ex) (hk : ks.length ≤ 12)
    (hrec : ∀ e ∈ ks, Cf En 21 [e.a, .d (.sl (row.map V.c))] [] (evalV e row).a []) (hcn : cntd 19 ks.length = true) :
    Cf En 21 [(Ex.mk 19 c n t g ks).a, .d (.sl (row.map V.c))] [] (evalV (.mk 19 c n t g ks) row).a [] := by
    refine cf_intro mix (fn := Tryz.f21) (by kernel_rfl) rfl (by kernel_rfl) (by decide) (by simp) ?_
    have hkc := kids_cntd 19 ks.length (by decide)
    simp [Ex.a, Ex.c, kidsC_map]
    (repeat' (first | contradiction | exact .of (by kernel_rfl) | refine And.intro ?_ ?_ | intro _ | (refine agrd_cases (fun h => ?_) (fun h => ?_) <;> (have h' := h; (try simp at h'); first | done | simp [h, h'] | simp))))
    refine acallT_plain (r_kids 19 ks.length) (by simp) ?_
    rw [hkc, hcn]
    simp
    (repeat' (first | contradiction | exact .of (by kernel_rfl) | refine And.intro ?_ ?_ | intro _ | (refine agrd_cases (fun h => ?_) (fun h => ?_) <;> (have h' := h; (try simp at h'); first | done | simp [h, h'] | simp))))
    refine aloopT mix (by decide) (rvF 19 c n g t ks row) (fun i : Nat => i ≤ ks.length) (fun i => ks.length - i) 0 (by simp) (sub_mk [(1, _), (2, _), (4, _), (5, _), (6, _)] [(2, 2, _), (4, 4, _)] ⟨by simp, by simp, by simp [renOf, Blk.live], by simp⟩ (by simp [renOf])) ?_
    intro i hi
    by_cases hlt : i < ks.length
    · have hgi : ks[i]? = some ks[i] := List.getElem?_eq_getElem hlt
      have c1 := Ex.clen ks[i]
      have k1 := Ex.ctake ks[i]
      have hr := hrec ks[i] (List.getElem_mem hlt)
      have htk : List.take (i + 1) (List.map (fun e => (evalV e row).c) ks) = List.take i (List.map (fun e => (evalV e row).c) ks) ++ [(evalV ks[i] row).c] := by
        rw [List.take_add_one, List.getElem?_map, hgi]; rfl
      simp only [V.c] at htk
      cases i with
      | zero =>
        have hlt2 : (0 : Int) < ks.length := by omega
        simp [rvF, hlt, hlt2, hgi, c1, k1]
        (repeat' (first | contradiction | exact .of (by kernel_rfl) | refine And.intro ?_ ?_ | intro _ | (refine agrd_cases (fun h => ?_) (fun h => ?_) <;> (have h' := h; (try simp at h'); first | done | simp [h, h'] | simp))))
        refine acallT_plain hr (by simp [Ex.a]) ?_
        simp [V.a]
        (repeat' (first | contradiction | exact .of (by kernel_rfl) | refine And.intro ?_ ?_ | intro _ | (refine agrd_cases (fun h => ?_) (fun h => ?_) <;> (have h' := h; (try simp at h'); first | done | simp [h, h'] | simp))))
        refine ⟨1, hlt, ?_, ?_⟩
        · refine sub_mk [(1, _), (2, _), (4, _), (5, _), (6, _)] [(2, 2, _), (4, 4, _), (900, 43, _)] ⟨by simp, by simp, ?_, by simp⟩ ?_
          · simp only [Nat.zero_add, List.take_zero, List.nil_append] at htk
            simp [renOf, Blk.live, htk, V.c]
          · simp [renOf]
            exact wrap_in (by omega) (by omega)
        · simp; omega
      | succ i =>
        have hlt2 : ((i + 1 : Nat) : Int) < ks.length := by omega
        have hlt3 : (i : Int) + 1 < ks.length := by omega
        have hp : (0 : Int) ≤ (i : Int) + 1 := by omega
        have hmin : min (i + 1) ks.length = i + 1 := by omega
        have s1 : (i + 1 + 1) * 32 ≤ 140737488355328 := by omega
        have s2 : i ≤ 9223372036854775805 := by omega
        simp [rvF, hlt, hlt2, hlt3, hp, hgi, c1, k1]
        (repeat' (first | contradiction | exact .of (by kernel_rfl) | refine And.intro ?_ ?_ | intro _ | (refine agrd_cases (fun h => ?_) (fun h => ?_) <;> (have h' := h; (try simp at h'); first | done | simp [h, h'] | simp))))
        refine acallT_plain hr (by simp [Ex.a]) ?_
        simp [V.a, hmin, s1, s2]
        (repeat' (first | contradiction | exact .of (by kernel_rfl) | refine And.intro ?_ ?_ | intro _ | (refine agrd_cases (fun h => ?_) (fun h => ?_) <;> (have h' := h; (try simp at h'); first | done | simp [h, h'] | simp))))
        refine ⟨i + 2, by omega, ?_, ?_⟩
        · refine sub_mk [(1, _), (2, _), (4, _), (5, _), (6, _)] [(2, 2, _), (4, 4, _), (900, 43, _)] ⟨by simp, by simp, ?_, by simp⟩ ?_
          · simp [renOf, Blk.live, htk, V.c]
          · simp [renOf]
            rw [wrap_in (by omega) (by omega)]
        · simp; omega
    have hie : i = ks.length := by omega
    subst hie
    clear hrec hkc hi hlt
    · obtain ⟨a, b, rfl⟩ : ∃ a b, ks = [a, b] := by
        have hl : ks.length = 2 := by simp [cntd, isOp, opOf, ops] at hcn; omega
        match ks, hl with
        | [a, b], _ => exact ⟨a, b, rfl⟩
      have he : evalV (.mk 19 c n t g [a, b]) row = notV (lessV (evalV a row) (evalV b row)) := by simp [evalV, show cntd 19 2 = true from by decide, evalAll, applyV, at0, at1]
      rw [he]
      simp [rvF, V.c]
      (repeat' (first | contradiction | exact .of (by kernel_rfl) | refine And.intro ?_ ?_ | intro _ | (refine agrd_cases (fun h => ?_) (fun h => ?_) <;> (have h' := h; (try simp at h'); first | done | simp [h, h'] | simp))))
      refine acallT_plain (r_less (evalV a row) (evalV b row)) (by simp [V.a]) ?_
      simp [V.a]
      (repeat' (first | contradiction | exact .of (by kernel_rfl) | refine And.intro ?_ ?_ | intro _ | (refine agrd_cases (fun h => ?_) (fun h => ?_) <;> (have h' := h; (try simp at h'); first | done | simp [h, h'] | simp))))
      refine acallT_plain (r_not (lessV (evalV a row) (evalV b row))) (by simp [V.a]) ?_
      simp [V.a]
      (repeat' (first | contradiction | exact .of (by kernel_rfl) | refine And.intro ?_ ?_ | intro _ | (refine agrd_cases (fun h => ?_) (fun h => ?_) <;> (have h' := h; (try simp at h'); first | done | simp [h, h'] | simp))))
theorem re_20 (row : List V) (hrow : row.length ≤ 1000) (c n g : Int) (t : List UInt8) (ks : List Ex) (hk : ks.length ≤ 12)
    (hrec : ∀ e ∈ ks, Cf En 21 [e.a, .d (.sl (row.map V.c))] [] (evalV e row).a []) (hcn : cntd 20 ks.length = true) :
    Cf En 21 [(Ex.mk 20 c n t g ks).a, .d (.sl (row.map V.c))] [] (evalV (.mk 20 c n t g ks) row).a [] := by
    refine cf_intro mix (fn := Tryz.f21) (by kernel_rfl) rfl (by kernel_rfl) (by decide) (by simp) ?_
    have hkc := kids_cntd 20 ks.length (by decide)
    simp [Ex.a, Ex.c, kidsC_map]
    (repeat' (first | contradiction | exact .of (by kernel_rfl) | refine And.intro ?_ ?_ | intro _ | (refine agrd_cases (fun h => ?_) (fun h => ?_) <;> (have h' := h; (try simp at h'); first | done | simp [h, h'] | simp))))
    refine acallT_plain (r_kids 20 ks.length) (by simp) ?_
    rw [hkc, hcn]
    simp
    (repeat' (first | contradiction | exact .of (by kernel_rfl) | refine And.intro ?_ ?_ | intro _ | (refine agrd_cases (fun h => ?_) (fun h => ?_) <;> (have h' := h; (try simp at h'); first | done | simp [h, h'] | simp))))
    refine aloopT mix (by decide) (rvF 20 c n g t ks row) (fun i : Nat => i ≤ ks.length) (fun i => ks.length - i) 0 (by simp) (sub_mk [(1, _), (2, _), (4, _), (5, _), (6, _)] [(2, 2, _), (4, 4, _)] ⟨by simp, by simp, by simp [renOf, Blk.live], by simp⟩ (by simp [renOf])) ?_
    intro i hi
    by_cases hlt : i < ks.length
    · have hgi : ks[i]? = some ks[i] := List.getElem?_eq_getElem hlt
      have c1 := Ex.clen ks[i]
      have k1 := Ex.ctake ks[i]
      have hr := hrec ks[i] (List.getElem_mem hlt)
      have htk : List.take (i + 1) (List.map (fun e => (evalV e row).c) ks) = List.take i (List.map (fun e => (evalV e row).c) ks) ++ [(evalV ks[i] row).c] := by
        rw [List.take_add_one, List.getElem?_map, hgi]; rfl
      simp only [V.c] at htk
      cases i with
      | zero =>
        have hlt2 : (0 : Int) < ks.length := by omega
        simp [rvF, hlt, hlt2, hgi, c1, k1]
        (repeat' (first | contradiction | exact .of (by kernel_rfl) | refine And.intro ?_ ?_ | intro _ | (refine agrd_cases (fun h => ?_) (fun h => ?_) <;> (have h' := h; (try simp at h'); first | done | simp [h, h'] | simp))))
        refine acallT_plain hr (by simp [Ex.a]) ?_
        simp [V.a]
        (repeat' (first | contradiction | exact .of (by kernel_rfl) | refine And.intro ?_ ?_ | intro _ | (refine agrd_cases (fun h => ?_) (fun h => ?_) <;> (have h' := h; (try simp at h'); first | done | simp [h, h'] | simp))))
        refine ⟨1, hlt, ?_, ?_⟩
        · refine sub_mk [(1, _), (2, _), (4, _), (5, _), (6, _)] [(2, 2, _), (4, 4, _), (900, 43, _)] ⟨by simp, by simp, ?_, by simp⟩ ?_
          · simp only [Nat.zero_add, List.take_zero, List.nil_append] at htk
            simp [renOf, Blk.live, htk, V.c]
          · simp [renOf]
            exact wrap_in (by omega) (by omega)
        · simp; omega
      | succ i =>
        have hlt2 : ((i + 1 : Nat) : Int) < ks.length := by omega
        have hlt3 : (i : Int) + 1 < ks.length := by omega
        have hp : (0 : Int) ≤ (i : Int) + 1 := by omega
        have hmin : min (i + 1) ks.length = i + 1 := by omega
        have s1 : (i + 1 + 1) * 32 ≤ 140737488355328 := by omega
        have s2 : i ≤ 9223372036854775805 := by omega
        simp [rvF, hlt, hlt2, hlt3, hp, hgi, c1, k1]
        (repeat' (first | contradiction | exact .of (by kernel_rfl) | refine And.intro ?_ ?_ | intro _ | (refine agrd_cases (fun h => ?_) (fun h => ?_) <;> (have h' := h; (try simp at h'); first | done | simp [h, h'] | simp))))
        refine acallT_plain hr (by simp [Ex.a]) ?_
        simp [V.a, hmin, s1, s2]
        (repeat' (first | contradiction | exact .of (by kernel_rfl) | refine And.intro ?_ ?_ | intro _ | (refine agrd_cases (fun h => ?_) (fun h => ?_) <;> (have h' := h; (try simp at h'); first | done | simp [h, h'] | simp))))
        refine ⟨i + 2, by omega, ?_, ?_⟩
        · refine sub_mk [(1, _), (2, _), (4, _), (5, _), (6, _)] [(2, 2, _), (4, 4, _), (900, 43, _)] ⟨by simp, by simp, ?_, by simp⟩ ?_
          · simp [renOf, Blk.live, htk, V.c]
          · simp [renOf]
            rw [wrap_in (by omega) (by omega)]
        · simp; omega
    have hie : i = ks.length := by omega
    subst hie
    clear hrec hkc hi hlt
    · obtain ⟨a, b, rfl⟩ : ∃ a b, ks = [a, b] := by
        have hl : ks.length = 2 := by simp [cntd, isOp, opOf, ops] at hcn; omega
        match ks, hl with
        | [a, b], _ => exact ⟨a, b, rfl⟩
      have he : evalV (.mk 20 c n t g [a, b]) row = ofV ((evalV a row).same (evalV b row)) := by simp [evalV, show cntd 20 2 = true from by decide, evalAll, applyV, at0, at1]
      rw [he]
      simp [rvF, V.c]
      (repeat' (first | contradiction | exact .of (by kernel_rfl) | refine And.intro ?_ ?_ | intro _ | (refine agrd_cases (fun h => ?_) (fun h => ?_) <;> (have h' := h; (try simp at h'); first | done | simp [h, h'] | simp))))
      refine acallT_plain (r_same (evalV a row) (evalV b row)) (by simp [V.a]) ?_
      simp [V.a, ← V.same_cmp]
      (repeat' (first | contradiction | exact .of (by kernel_rfl) | refine And.intro ?_ ?_ | intro _ | (refine agrd_cases (fun h => ?_) (fun h => ?_) <;> (have h' := h; (try simp at h'); first | done | simp [h, h'] | simp))))
      refine acallT_plain (r_of ((evalV a row).same (evalV b row))) (by simp [V.a]) ?_
      simp [V.a, ← V.same_cmp]
      (repeat' (first | contradiction | exact .of (by kernel_rfl) | refine And.intro ?_ ?_ | intro _ | (refine agrd_cases (fun h => ?_) (fun h => ?_) <;> (have h' := h; (try simp at h'); first | done | simp [h, h'] | simp))))
theorem re_21 (row : List V) (hrow : row.length ≤ 1000) (c n g : Int) (t : List UInt8) (ks : List Ex) (hk : ks.length ≤ 12)
    (hrec : ∀ e ∈ ks, Cf En 21 [e.a, .d (.sl (row.map V.c))] [] (evalV e row).a []) (hcn : cntd 21 ks.length = true) :
    Cf En 21 [(Ex.mk 21 c n t g ks).a, .d (.sl (row.map V.c))] [] (evalV (.mk 21 c n t g ks) row).a [] := by
    refine cf_intro mix (fn := Tryz.f21) (by kernel_rfl) rfl (by kernel_rfl) (by decide) (by simp) ?_
    have hkc := kids_cntd 21 ks.length (by decide)
    simp [Ex.a, Ex.c, kidsC_map]
    (repeat' (first | contradiction | exact .of (by kernel_rfl) | refine And.intro ?_ ?_ | intro _ | (refine agrd_cases (fun h => ?_) (fun h => ?_) <;> (have h' := h; (try simp at h'); first | done | simp [h, h'] | simp))))
    refine acallT_plain (r_kids 21 ks.length) (by simp) ?_
    rw [hkc, hcn]
    simp
    (repeat' (first | contradiction | exact .of (by kernel_rfl) | refine And.intro ?_ ?_ | intro _ | (refine agrd_cases (fun h => ?_) (fun h => ?_) <;> (have h' := h; (try simp at h'); first | done | simp [h, h'] | simp))))
    refine aloopT mix (by decide) (rvF 21 c n g t ks row) (fun i : Nat => i ≤ ks.length) (fun i => ks.length - i) 0 (by simp) (sub_mk [(1, _), (2, _), (4, _), (5, _), (6, _)] [(2, 2, _), (4, 4, _)] ⟨by simp, by simp, by simp [renOf, Blk.live], by simp⟩ (by simp [renOf])) ?_
    intro i hi
    by_cases hlt : i < ks.length
    · have hgi : ks[i]? = some ks[i] := List.getElem?_eq_getElem hlt
      have c1 := Ex.clen ks[i]
      have k1 := Ex.ctake ks[i]
      have hr := hrec ks[i] (List.getElem_mem hlt)
      have htk : List.take (i + 1) (List.map (fun e => (evalV e row).c) ks) = List.take i (List.map (fun e => (evalV e row).c) ks) ++ [(evalV ks[i] row).c] := by
        rw [List.take_add_one, List.getElem?_map, hgi]; rfl
      simp only [V.c] at htk
      cases i with
      | zero =>
        have hlt2 : (0 : Int) < ks.length := by omega
        simp [rvF, hlt, hlt2, hgi, c1, k1]
        (repeat' (first | contradiction | exact .of (by kernel_rfl) | refine And.intro ?_ ?_ | intro _ | (refine agrd_cases (fun h => ?_) (fun h => ?_) <;> (have h' := h; (try simp at h'); first | done | simp [h, h'] | simp))))
        refine acallT_plain hr (by simp [Ex.a]) ?_
        simp [V.a]
        (repeat' (first | contradiction | exact .of (by kernel_rfl) | refine And.intro ?_ ?_ | intro _ | (refine agrd_cases (fun h => ?_) (fun h => ?_) <;> (have h' := h; (try simp at h'); first | done | simp [h, h'] | simp))))
        refine ⟨1, hlt, ?_, ?_⟩
        · refine sub_mk [(1, _), (2, _), (4, _), (5, _), (6, _)] [(2, 2, _), (4, 4, _), (900, 43, _)] ⟨by simp, by simp, ?_, by simp⟩ ?_
          · simp only [Nat.zero_add, List.take_zero, List.nil_append] at htk
            simp [renOf, Blk.live, htk, V.c]
          · simp [renOf]
            exact wrap_in (by omega) (by omega)
        · simp; omega
      | succ i =>
        have hlt2 : ((i + 1 : Nat) : Int) < ks.length := by omega
        have hlt3 : (i : Int) + 1 < ks.length := by omega
        have hp : (0 : Int) ≤ (i : Int) + 1 := by omega
        have hmin : min (i + 1) ks.length = i + 1 := by omega
        have s1 : (i + 1 + 1) * 32 ≤ 140737488355328 := by omega
        have s2 : i ≤ 9223372036854775805 := by omega
        simp [rvF, hlt, hlt2, hlt3, hp, hgi, c1, k1]
        (repeat' (first | contradiction | exact .of (by kernel_rfl) | refine And.intro ?_ ?_ | intro _ | (refine agrd_cases (fun h => ?_) (fun h => ?_) <;> (have h' := h; (try simp at h'); first | done | simp [h, h'] | simp))))
        refine acallT_plain hr (by simp [Ex.a]) ?_
        simp [V.a, hmin, s1, s2]
        (repeat' (first | contradiction | exact .of (by kernel_rfl) | refine And.intro ?_ ?_ | intro _ | (refine agrd_cases (fun h => ?_) (fun h => ?_) <;> (have h' := h; (try simp at h'); first | done | simp [h, h'] | simp))))
        refine ⟨i + 2, by omega, ?_, ?_⟩
        · refine sub_mk [(1, _), (2, _), (4, _), (5, _), (6, _)] [(2, 2, _), (4, 4, _), (900, 43, _)] ⟨by simp, by simp, ?_, by simp⟩ ?_
          · simp [renOf, Blk.live, htk, V.c]
          · simp [renOf]
            rw [wrap_in (by omega) (by omega)]
        · simp; omega
    have hie : i = ks.length := by omega
    subst hie
    clear hrec hkc hi hlt
    · obtain ⟨a, rfl⟩ : ∃ a, ks = [a] := by
        have hl : ks.length = 1 := by simp [cntd, isOp, opOf, ops] at hcn; omega
        match ks, hl with
        | [a], _ => exact ⟨a, rfl⟩
      have he : evalV (.mk 21 c n t g [a]) row = ofV ((evalV a row).k == 0) := by simp [evalV, show cntd 21 1 = true from by decide, evalAll, applyV, at0, at1]
      rw [he]
      simp [rvF, V.c]
      (repeat' (first | contradiction | exact .of (by kernel_rfl) | refine And.intro ?_ ?_ | intro _ | (refine agrd_cases (fun h => ?_) (fun h => ?_) <;> (have h' := h; (try simp at h'); first | done | simp [h, h'] | simp))))
      refine acallT_plain (r_of ((evalV a row).k == 0)) (by simp [V.a]) ?_
      simp [V.a]
      (repeat' (first | contradiction | exact .of (by kernel_rfl) | refine And.intro ?_ ?_ | intro _ | (refine agrd_cases (fun h => ?_) (fun h => ?_) <;> (have h' := h; (try simp at h'); first | done | simp [h, h'] | simp))))
theorem re_22 (row : List V) (hrow : row.length ≤ 1000) (c n g : Int) (t : List UInt8) (ks : List Ex) (hk : ks.length ≤ 12)
    (hrec : ∀ e ∈ ks, Cf En 21 [e.a, .d (.sl (row.map V.c))] [] (evalV e row).a []) (hcn : cntd 22 ks.length = true) :
    Cf En 21 [(Ex.mk 22 c n t g ks).a, .d (.sl (row.map V.c))] [] (evalV (.mk 22 c n t g ks) row).a [] := by
    refine cf_intro mix (fn := Tryz.f21) (by kernel_rfl) rfl (by kernel_rfl) (by decide) (by simp) ?_
    have hkc := kids_cntd 22 ks.length (by decide)
    simp [Ex.a, Ex.c, kidsC_map]
    (repeat' (first | contradiction | exact .of (by kernel_rfl) | refine And.intro ?_ ?_ | intro _ | (refine agrd_cases (fun h => ?_) (fun h => ?_) <;> (have h' := h; (try simp at h'); first | done | simp [h, h'] | simp))))
    refine acallT_plain (r_kids 22 ks.length) (by simp) ?_
    rw [hkc, hcn]
    simp
    (repeat' (first | contradiction | exact .of (by kernel_rfl) | refine And.intro ?_ ?_ | intro _ | (refine agrd_cases (fun h => ?_) (fun h => ?_) <;> (have h' := h; (try simp at h'); first | done | simp [h, h'] | simp))))
    refine aloopT mix (by decide) (rvF 22 c n g t ks row) (fun i : Nat => i ≤ ks.length) (fun i => ks.length - i) 0 (by simp) (sub_mk [(1, _), (2, _), (4, _), (5, _), (6, _)] [(2, 2, _), (4, 4, _)] ⟨by simp, by simp, by simp [renOf, Blk.live], by simp⟩ (by simp [renOf])) ?_
    intro i hi
    by_cases hlt : i < ks.length
    · have hgi : ks[i]? = some ks[i] := List.getElem?_eq_getElem hlt
      have c1 := Ex.clen ks[i]
      have k1 := Ex.ctake ks[i]
      have hr := hrec ks[i] (List.getElem_mem hlt)
      have htk : List.take (i + 1) (List.map (fun e => (evalV e row).c) ks) = List.take i (List.map (fun e => (evalV e row).c) ks) ++ [(evalV ks[i] row).c] := by
        rw [List.take_add_one, List.getElem?_map, hgi]; rfl
      simp only [V.c] at htk
      cases i with
      | zero =>
        have hlt2 : (0 : Int) < ks.length := by omega
        simp [rvF, hlt, hlt2, hgi, c1, k1]
        (repeat' (first | contradiction | exact .of (by kernel_rfl) | refine And.intro ?_ ?_ | intro _ | (refine agrd_cases (fun h => ?_) (fun h => ?_) <;> (have h' := h; (try simp at h'); first | done | simp [h, h'] | simp))))
        refine acallT_plain hr (by simp [Ex.a]) ?_
        simp [V.a]
        (repeat' (first | contradiction | exact .of (by kernel_rfl) | refine And.intro ?_ ?_ | intro _ | (refine agrd_cases (fun h => ?_) (fun h => ?_) <;> (have h' := h; (try simp at h'); first | done | simp [h, h'] | simp))))
        refine ⟨1, hlt, ?_, ?_⟩
        · refine sub_mk [(1, _), (2, _), (4, _), (5, _), (6, _)] [(2, 2, _), (4, 4, _), (900, 43, _)] ⟨by simp, by simp, ?_, by simp⟩ ?_
          · simp only [Nat.zero_add, List.take_zero, List.nil_append] at htk
            simp [renOf, Blk.live, htk, V.c]
          · simp [renOf]
            exact wrap_in (by omega) (by omega)
        · simp; omega
      | succ i =>
        have hlt2 : ((i + 1 : Nat) : Int) < ks.length := by omega
        have hlt3 : (i : Int) + 1 < ks.length := by omega
        have hp : (0 : Int) ≤ (i : Int) + 1 := by omega
        have hmin : min (i + 1) ks.length = i + 1 := by omega
        have s1 : (i + 1 + 1) * 32 ≤ 140737488355328 := by omega
        have s2 : i ≤ 9223372036854775805 := by omega
        simp [rvF, hlt, hlt2, hlt3, hp, hgi, c1, k1]
        (repeat' (first | contradiction | exact .of (by kernel_rfl) | refine And.intro ?_ ?_ | intro _ | (refine agrd_cases (fun h => ?_) (fun h => ?_) <;> (have h' := h; (try simp at h'); first | done | simp [h, h'] | simp))))
        refine acallT_plain hr (by simp [Ex.a]) ?_
        simp [V.a, hmin, s1, s2]
        (repeat' (first | contradiction | exact .of (by kernel_rfl) | refine And.intro ?_ ?_ | intro _ | (refine agrd_cases (fun h => ?_) (fun h => ?_) <;> (have h' := h; (try simp at h'); first | done | simp [h, h'] | simp))))
        refine ⟨i + 2, by omega, ?_, ?_⟩
        · refine sub_mk [(1, _), (2, _), (4, _), (5, _), (6, _)] [(2, 2, _), (4, 4, _), (900, 43, _)] ⟨by simp, by simp, ?_, by simp⟩ ?_
          · simp [renOf, Blk.live, htk, V.c]
          · simp [renOf]
            rw [wrap_in (by omega) (by omega)]
        · simp; omega
    have hie : i = ks.length := by omega
    subst hie
    clear hrec hkc hi hlt
    · obtain ⟨a, b, rfl⟩ : ∃ a b, ks = [a, b] := by
        have hl : ks.length = 2 := by simp [cntd, isOp, opOf, ops] at hcn; omega
        match ks, hl with
        | [a, b], _ => exact ⟨a, b, rfl⟩
      have he : evalV (.mk 22 c n t g [a, b]) row = andV (evalV a row) (evalV b row) := by simp [evalV, show cntd 22 2 = true from by decide, evalAll, applyV, at0, at1]
      rw [he]
      simp [rvF, V.c]
      (repeat' (first | contradiction | exact .of (by kernel_rfl) | refine And.intro ?_ ?_ | intro _ | (refine agrd_cases (fun h => ?_) (fun h => ?_) <;> (have h' := h; (try simp at h'); first | done | simp [h, h'] | simp))))
      refine acallT_plain (r_and (evalV a row) (evalV b row)) (by simp [V.a]) ?_
      simp [V.a]
      (repeat' (first | contradiction | exact .of (by kernel_rfl) | refine And.intro ?_ ?_ | intro _ | (refine agrd_cases (fun h => ?_) (fun h => ?_) <;> (have h' := h; (try simp at h'); first | done | simp [h, h'] | simp))))
theorem re_23 (row : List V) (hrow : row.length ≤ 1000) (c n g : Int) (t : List UInt8) (ks : List Ex) (hk : ks.length ≤ 12)
    (hrec : ∀ e ∈ ks, Cf En 21 [e.a, .d (.sl (row.map V.c))] [] (evalV e row).a []) (hcn : cntd 23 ks.length = true) :
    Cf En 21 [(Ex.mk 23 c n t g ks).a, .d (.sl (row.map V.c))] [] (evalV (.mk 23 c n t g ks) row).a [] := by
    refine cf_intro mix (fn := Tryz.f21) (by kernel_rfl) rfl (by kernel_rfl) (by decide) (by simp) ?_
    have hkc := kids_cntd 23 ks.length (by decide)
    simp [Ex.a, Ex.c, kidsC_map]
    (repeat' (first | contradiction | exact .of (by kernel_rfl) | refine And.intro ?_ ?_ | intro _ | (refine agrd_cases (fun h => ?_) (fun h => ?_) <;> (have h' := h; (try simp at h'); first | done | simp [h, h'] | simp))))
    refine acallT_plain (r_kids 23 ks.length) (by simp) ?_
    rw [hkc, hcn]
    simp
    (repeat' (first | contradiction | exact .of (by kernel_rfl) | refine And.intro ?_ ?_ | intro _ | (refine agrd_cases (fun h => ?_) (fun h => ?_) <;> (have h' := h; (try simp at h'); first | done | simp [h, h'] | simp))))
    refine aloopT mix (by decide) (rvF 23 c n g t ks row) (fun i : Nat => i ≤ ks.length) (fun i => ks.length - i) 0 (by simp) (sub_mk [(1, _), (2, _), (4, _), (5, _), (6, _)] [(2, 2, _), (4, 4, _)] ⟨by simp, by simp, by simp [renOf, Blk.live], by simp⟩ (by simp [renOf])) ?_
    intro i hi
    by_cases hlt : i < ks.length
    · have hgi : ks[i]? = some ks[i] := List.getElem?_eq_getElem hlt
      have c1 := Ex.clen ks[i]
      have k1 := Ex.ctake ks[i]
      have hr := hrec ks[i] (List.getElem_mem hlt)
      have htk : List.take (i + 1) (List.map (fun e => (evalV e row).c) ks) = List.take i (List.map (fun e => (evalV e row).c) ks) ++ [(evalV ks[i] row).c] := by
        rw [List.take_add_one, List.getElem?_map, hgi]; rfl
      simp only [V.c] at htk
      cases i with
      | zero =>
        have hlt2 : (0 : Int) < ks.length := by omega
        simp [rvF, hlt, hlt2, hgi, c1, k1]
        (repeat' (first | contradiction | exact .of (by kernel_rfl) | refine And.intro ?_ ?_ | intro _ | (refine agrd_cases (fun h => ?_) (fun h => ?_) <;> (have h' := h; (try simp at h'); first | done | simp [h, h'] | simp))))
        refine acallT_plain hr (by simp [Ex.a]) ?_
        simp [V.a]
        (repeat' (first | contradiction | exact .of (by kernel_rfl) | refine And.intro ?_ ?_ | intro _ | (refine agrd_cases (fun h => ?_) (fun h => ?_) <;> (have h' := h; (try simp at h'); first | done | simp [h, h'] | simp))))
        refine ⟨1, hlt, ?_, ?_⟩
        · refine sub_mk [(1, _), (2, _), (4, _), (5, _), (6, _)] [(2, 2, _), (4, 4, _), (900, 43, _)] ⟨by simp, by simp, ?_, by simp⟩ ?_
          · simp only [Nat.zero_add, List.take_zero, List.nil_append] at htk
            simp [renOf, Blk.live, htk, V.c]
          · simp [renOf]
            exact wrap_in (by omega) (by omega)
        · simp; omega
      | succ i =>
        have hlt2 : ((i + 1 : Nat) : Int) < ks.length := by omega
        have hlt3 : (i : Int) + 1 < ks.length := by omega
        have hp : (0 : Int) ≤ (i : Int) + 1 := by omega
        have hmin : min (i + 1) ks.length = i + 1 := by omega
        have s1 : (i + 1 + 1) * 32 ≤ 140737488355328 := by omega
        have s2 : i ≤ 9223372036854775805 := by omega
        simp [rvF, hlt, hlt2, hlt3, hp, hgi, c1, k1]
        (repeat' (first | contradiction | exact .of (by kernel_rfl) | refine And.intro ?_ ?_ | intro _ | (refine agrd_cases (fun h => ?_) (fun h => ?_) <;> (have h' := h; (try simp at h'); first | done | simp [h, h'] | simp))))
        refine acallT_plain hr (by simp [Ex.a]) ?_
        simp [V.a, hmin, s1, s2]
        (repeat' (first | contradiction | exact .of (by kernel_rfl) | refine And.intro ?_ ?_ | intro _ | (refine agrd_cases (fun h => ?_) (fun h => ?_) <;> (have h' := h; (try simp at h'); first | done | simp [h, h'] | simp))))
        refine ⟨i + 2, by omega, ?_, ?_⟩
        · refine sub_mk [(1, _), (2, _), (4, _), (5, _), (6, _)] [(2, 2, _), (4, 4, _), (900, 43, _)] ⟨by simp, by simp, ?_, by simp⟩ ?_
          · simp [renOf, Blk.live, htk, V.c]
          · simp [renOf]
            rw [wrap_in (by omega) (by omega)]
        · simp; omega
    have hie : i = ks.length := by omega
    subst hie
    clear hrec hkc hi hlt
    · obtain ⟨a, b, rfl⟩ : ∃ a b, ks = [a, b] := by
        have hl : ks.length = 2 := by simp [cntd, isOp, opOf, ops] at hcn; omega
        match ks, hl with
        | [a, b], _ => exact ⟨a, b, rfl⟩
      have he : evalV (.mk 23 c n t g [a, b]) row = orV (evalV a row) (evalV b row) := by simp [evalV, show cntd 23 2 = true from by decide, evalAll, applyV, at0, at1]
      rw [he]
      simp [rvF, V.c]
      (repeat' (first | contradiction | exact .of (by kernel_rfl) | refine And.intro ?_ ?_ | intro _ | (refine agrd_cases (fun h => ?_) (fun h => ?_) <;> (have h' := h; (try simp at h'); first | done | simp [h, h'] | simp))))
      refine acallT_plain (r_or (evalV a row) (evalV b row)) (by simp [V.a]) ?_
      simp [V.a]
      (repeat' (first | contradiction | exact .of (by kernel_rfl) | refine And.intro ?_ ?_ | intro _ | (refine agrd_cases (fun h => ?_) (fun h => ?_) <;> (have h' := h; (try simp at h'); first | done | simp [h, h'] | simp))))
end Go.Proofs.Tryz
