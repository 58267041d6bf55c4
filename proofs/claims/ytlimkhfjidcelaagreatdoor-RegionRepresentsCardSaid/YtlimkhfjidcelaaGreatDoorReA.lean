/- The reference's Eval: some operations. -/
import Derived.Test.YtlimkhfjidcelaaGreatDoorRe0
set_option linter.all false
namespace Go.Proofs.Tryz
open Go.Ab
set_option maxRecDepth 100000
set_option maxHeartbeats 16000000

theorem re_1 (row : List V) (hrow : row.length ≤ 1000) (c n g : Int) (t : List UInt8) (ks : List Ex) (hk : ks.length ≤ 12)
    (hrec : ∀ e ∈ ks, Cf En 21 [e.a, .d (.sl (row.map V.c))] [] (evalV e row).a []) (hcn : cntd 1 ks.length = true) :
    Cf En 21 [(Ex.mk 1 c n t g ks).a, .d (.sl (row.map V.c))] [] (evalV (.mk 1 c n t g ks) row).a [] := by
    refine cf_intro mix (fn := Tryz.f21) (by kernel_rfl) rfl (by kernel_rfl) (by decide) (by simp) ?_
    have hkc := kids_cntd 1 ks.length (by decide)
    simp [Ex.a, Ex.c, kidsC_map]
    (repeat' (first | contradiction | exact .of (by kernel_rfl) | refine And.intro ?_ ?_ | intro _ | (refine agrd_cases (fun h => ?_) (fun h => ?_) <;> (have h' := h; (try simp at h'); first | done | simp [h, h'] | simp))))
    refine acallT_plain (r_kids 1 ks.length) (by simp) ?_
    rw [hkc, hcn]
    simp
    (repeat' (first | contradiction | exact .of (by kernel_rfl) | refine And.intro ?_ ?_ | intro _ | (refine agrd_cases (fun h => ?_) (fun h => ?_) <;> (have h' := h; (try simp at h'); first | done | simp [h, h'] | simp))))
    refine aloopT mix (by decide) (rvF 1 c n g t ks row) (fun i : Nat => i ≤ ks.length) (fun i => ks.length - i) 0 (by simp) (sub_mk [(1, _), (2, _), (4, _), (5, _), (6, _)] [(2, 2, _), (4, 4, _)] ⟨by simp, by simp, by simp [renOf, Blk.live], by simp⟩ (by simp [renOf])) ?_
    intro i hi
    by_cases hlt : i < ks.length
    · have hgi : ks[i]? = some ks[i] := List.getElem?_eq_getElem hlt
      have c1 := Ex.clen ks[i]
      have k1 := Ex.ctake ks[i]
      have hr := hrec ks[i] (List.getElem_mem hlt)
      have htk : List.take (i + 1) (List.map (fun e => (evalV e row).c) ks) = List.take i (List.map (fun e => (evalV e row).c) ks) ++ [(evalV ks[i] row).c] := by
        rw [List.take_add_one, List.getElem?_map, hgi]; rfl
      simp only [V.c] at htk
      cases i with
      | zero =>
        have hlt2 : (0 : Int) < ks.length := by omega
        simp [rvF, hlt, hlt2, hgi, c1, k1]
        (repeat' (first | contradiction | exact .of (by kernel_rfl) | refine And.intro ?_ ?_ | intro _ | (refine agrd_cases (fun h => ?_) (fun h => ?_) <;> (have h' := h; (try simp at h'); first | done | simp [h, h'] | simp))))
        refine acallT_plain hr (by simp [Ex.a]) ?_
        simp [V.a]
        (repeat' (first | contradiction | exact .of (by kernel_rfl) | refine And.intro ?_ ?_ | intro _ | (refine agrd_cases (fun h => ?_) (fun h => ?_) <;> (have h' := h; (try simp at h'); first | done | simp [h, h'] | simp))))
        refine ⟨1, hlt, ?_, ?_⟩
        · refine sub_mk [(1, _), (2, _), (4, _), (5, _), (6, _)] [(2, 2, _), (4, 4, _), (900, 43, _)] ⟨by simp, by simp, ?_, by simp⟩ ?_
          · simp only [Nat.zero_add, List.take_zero, List.nil_append] at htk
            simp [renOf, Blk.live, htk, V.c]
          · simp [renOf]
            exact wrap_in (by omega) (by omega)
        · simp; omega
      | succ i =>
        have hlt2 : ((i + 1 : Nat) : Int) < ks.length := by omega
        have hlt3 : (i : Int) + 1 < ks.length := by omega
        have hp : (0 : Int) ≤ (i : Int) + 1 := by omega
        have hmin : min (i + 1) ks.length = i + 1 := by omega
        have s1 : (i + 1 + 1) * 32 ≤ 140737488355328 := by omega
        have s2 : i ≤ 9223372036854775805 := by omega
        simp [rvF, hlt, hlt2, hlt3, hp, hgi, c1, k1]
        (repeat' (first | contradiction | exact .of (by kernel_rfl) | refine And.intro ?_ ?_ | intro _ | (refine agrd_cases (fun h => ?_) (fun h => ?_) <;> (have h' := h; (try simp at h'); first | done | simp [h, h'] | simp))))
        refine acallT_plain hr (by simp [Ex.a]) ?_
        simp [V.a, hmin, s1, s2]
        (repeat' (first | contradiction | exact .of (by kernel_rfl) | refine And.intro ?_ ?_ | intro _ | (refine agrd_cases (fun h => ?_) (fun h => ?_) <;> (have h' := h; (try simp at h'); first | done | simp [h, h'] | simp))))
        refine ⟨i + 2, by omega, ?_, ?_⟩
        · refine sub_mk [(1, _), (2, _), (4, _), (5, _), (6, _)] [(2, 2, _), (4, 4, _), (900, 43, _)] ⟨by simp, by simp, ?_, by simp⟩ ?_
          · simp [renOf, Blk.live, htk, V.c]
          · simp [renOf]
            rw [wrap_in (by omega) (by omega)]
        · simp; omega
    have hie : i = ks.length := by omega
    subst hie
    clear hrec hkc hi hlt
    · have : ks = [] := by simpa [cntd, isOp, opOf, ops] using hcn
      subst this
      rw [show evalV (.mk 1 c n t g []) row = nulV from by simp [evalV, show cntd 1 0 = true from by decide, evalAll, applyV]]
      simp [rvF, V.a, nulV]
      (repeat' (first | contradiction | exact .of (by kernel_rfl) | refine And.intro ?_ ?_ | intro _ | (refine agrd_cases (fun h => ?_) (fun h => ?_) <;> (have h' := h; (try simp at h'); first | done | simp [h, h'] | simp))))
theorem re_2 (row : List V) (hrow : row.length ≤ 1000) (c n g : Int) (t : List UInt8) (ks : List Ex) (hk : ks.length ≤ 12)
    (hrec : ∀ e ∈ ks, Cf En 21 [e.a, .d (.sl (row.map V.c))] [] (evalV e row).a []) (hcn : cntd 2 ks.length = true) :
    Cf En 21 [(Ex.mk 2 c n t g ks).a, .d (.sl (row.map V.c))] [] (evalV (.mk 2 c n t g ks) row).a [] := by
    refine cf_intro mix (fn := Tryz.f21) (by kernel_rfl) rfl (by kernel_rfl) (by decide) (by simp) ?_
    have hkc := kids_cntd 2 ks.length (by decide)
    simp [Ex.a, Ex.c, kidsC_map]
    (repeat' (first | contradiction | exact .of (by kernel_rfl) | refine And.intro ?_ ?_ | intro _ | (refine agrd_cases (fun h => ?_) (fun h => ?_) <;> (have h' := h; (try simp at h'); first | done | simp [h, h'] | simp))))
    refine acallT_plain (r_kids 2 ks.length) (by simp) ?_
    rw [hkc, hcn]
    simp
    (repeat' (first | contradiction | exact .of (by kernel_rfl) | refine And.intro ?_ ?_ | intro _ | (refine agrd_cases (fun h => ?_) (fun h => ?_) <;> (have h' := h; (try simp at h'); first | done | simp [h, h'] | simp))))
    refine aloopT mix (by decide) (rvF 2 c n g t ks row) (fun i : Nat => i ≤ ks.length) (fun i => ks.length - i) 0 (by simp) (sub_mk [(1, _), (2, _), (4, _), (5, _), (6, _)] [(2, 2, _), (4, 4, _)] ⟨by simp, by simp, by simp [renOf, Blk.live], by simp⟩ (by simp [renOf])) ?_
    intro i hi
    by_cases hlt : i < ks.length
    · have hgi : ks[i]? = some ks[i] := List.getElem?_eq_getElem hlt
      have c1 := Ex.clen ks[i]
      have k1 := Ex.ctake ks[i]
      have hr := hrec ks[i] (List.getElem_mem hlt)
      have htk : List.take (i + 1) (List.map (fun e => (evalV e row).c) ks) = List.take i (List.map (fun e => (evalV e row).c) ks) ++ [(evalV ks[i] row).c] := by
        rw [List.take_add_one, List.getElem?_map, hgi]; rfl
      simp only [V.c] at htk
      cases i with
      | zero =>
        have hlt2 : (0 : Int) < ks.length := by omega
        simp [rvF, hlt, hlt2, hgi, c1, k1]
        (repeat' (first | contradiction | exact .of (by kernel_rfl) | refine And.intro ?_ ?_ | intro _ | (refine agrd_cases (fun h => ?_) (fun h => ?_) <;> (have h' := h; (try simp at h'); first | done | simp [h, h'] | simp))))
        refine acallT_plain hr (by simp [Ex.a]) ?_
        simp [V.a]
        (repeat' (first | contradiction | exact .of (by kernel_rfl) | refine And.intro ?_ ?_ | intro _ | (refine agrd_cases (fun h => ?_) (fun h => ?_) <;> (have h' := h; (try simp at h'); first | done | simp [h, h'] | simp))))
        refine ⟨1, hlt, ?_, ?_⟩
        · refine sub_mk [(1, _), (2, _), (4, _), (5, _), (6, _)] [(2, 2, _), (4, 4, _), (900, 43, _)] ⟨by simp, by simp, ?_, by simp⟩ ?_
          · simp only [Nat.zero_add, List.take_zero, List.nil_append] at htk
            simp [renOf, Blk.live, htk, V.c]
          · simp [renOf]
            exact wrap_in (by omega) (by omega)
        · simp; omega
      | succ i =>
        have hlt2 : ((i + 1 : Nat) : Int) < ks.length := by omega
        have hlt3 : (i : Int) + 1 < ks.length := by omega
        have hp : (0 : Int) ≤ (i : Int) + 1 := by omega
        have hmin : min (i + 1) ks.length = i + 1 := by omega
        have s1 : (i + 1 + 1) * 32 ≤ 140737488355328 := by omega
        have s2 : i ≤ 9223372036854775805 := by omega
        simp [rvF, hlt, hlt2, hlt3, hp, hgi, c1, k1]
        (repeat' (first | contradiction | exact .of (by kernel_rfl) | refine And.intro ?_ ?_ | intro _ | (refine agrd_cases (fun h => ?_) (fun h => ?_) <;> (have h' := h; (try simp at h'); first | done | simp [h, h'] | simp))))
        refine acallT_plain hr (by simp [Ex.a]) ?_
        simp [V.a, hmin, s1, s2]
        (repeat' (first | contradiction | exact .of (by kernel_rfl) | refine And.intro ?_ ?_ | intro _ | (refine agrd_cases (fun h => ?_) (fun h => ?_) <;> (have h' := h; (try simp at h'); first | done | simp [h, h'] | simp))))
        refine ⟨i + 2, by omega, ?_, ?_⟩
        · refine sub_mk [(1, _), (2, _), (4, _), (5, _), (6, _)] [(2, 2, _), (4, 4, _), (900, 43, _)] ⟨by simp, by simp, ?_, by simp⟩ ?_
          · simp [renOf, Blk.live, htk, V.c]
          · simp [renOf]
            rw [wrap_in (by omega) (by omega)]
        · simp; omega
    have hie : i = ks.length := by omega
    subst hie
    clear hrec hkc hi hlt
    · have : ks = [] := by simpa [cntd, isOp, opOf, ops] using hcn
      subst this
      rw [show evalV (.mk 2 c n t g []) row = ⟨1, n, []⟩ from by simp [evalV, show cntd 2 0 = true from by decide, evalAll, applyV]]
      simp [rvF, V.a]
      (repeat' (first | contradiction | exact .of (by kernel_rfl) | refine And.intro ?_ ?_ | intro _ | (refine agrd_cases (fun h => ?_) (fun h => ?_) <;> (have h' := h; (try simp at h'); first | done | simp [h, h'] | simp))))
theorem re_3 (row : List V) (hrow : row.length ≤ 1000) (c n g : Int) (t : List UInt8) (ks : List Ex) (hk : ks.length ≤ 12)
    (hrec : ∀ e ∈ ks, Cf En 21 [e.a, .d (.sl (row.map V.c))] [] (evalV e row).a []) (hcn : cntd 3 ks.length = true) :
    Cf En 21 [(Ex.mk 3 c n t g ks).a, .d (.sl (row.map V.c))] [] (evalV (.mk 3 c n t g ks) row).a [] := by
    refine cf_intro mix (fn := Tryz.f21) (by kernel_rfl) rfl (by kernel_rfl) (by decide) (by simp) ?_
    have hkc := kids_cntd 3 ks.length (by decide)
    simp [Ex.a, Ex.c, kidsC_map]
    (repeat' (first | contradiction | exact .of (by kernel_rfl) | refine And.intro ?_ ?_ | intro _ | (refine agrd_cases (fun h => ?_) (fun h => ?_) <;> (have h' := h; (try simp at h'); first | done | simp [h, h'] | simp))))
    refine acallT_plain (r_kids 3 ks.length) (by simp) ?_
    rw [hkc, hcn]
    simp
    (repeat' (first | contradiction | exact .of (by kernel_rfl) | refine And.intro ?_ ?_ | intro _ | (refine agrd_cases (fun h => ?_) (fun h => ?_) <;> (have h' := h; (try simp at h'); first | done | simp [h, h'] | simp))))
    refine aloopT mix (by decide) (rvF 3 c n g t ks row) (fun i : Nat => i ≤ ks.length) (fun i => ks.length - i) 0 (by simp) (sub_mk [(1, _), (2, _), (4, _), (5, _), (6, _)] [(2, 2, _), (4, 4, _)] ⟨by simp, by simp, by simp [renOf, Blk.live], by simp⟩ (by simp [renOf])) ?_
    intro i hi
    by_cases hlt : i < ks.length
    · have hgi : ks[i]? = some ks[i] := List.getElem?_eq_getElem hlt
      have c1 := Ex.clen ks[i]
      have k1 := Ex.ctake ks[i]
      have hr := hrec ks[i] (List.getElem_mem hlt)
      have htk : List.take (i + 1) (List.map (fun e => (evalV e row).c) ks) = List.take i (List.map (fun e => (evalV e row).c) ks) ++ [(evalV ks[i] row).c] := by
        rw [List.take_add_one, List.getElem?_map, hgi]; rfl
      simp only [V.c] at htk
      cases i with
      | zero =>
        have hlt2 : (0 : Int) < ks.length := by omega
        simp [rvF, hlt, hlt2, hgi, c1, k1]
        (repeat' (first | contradiction | exact .of (by kernel_rfl) | refine And.intro ?_ ?_ | intro _ | (refine agrd_cases (fun h => ?_) (fun h => ?_) <;> (have h' := h; (try simp at h'); first | done | simp [h, h'] | simp))))
        refine acallT_plain hr (by simp [Ex.a]) ?_
        simp [V.a]
        (repeat' (first | contradiction | exact .of (by kernel_rfl) | refine And.intro ?_ ?_ | intro _ | (refine agrd_cases (fun h => ?_) (fun h => ?_) <;> (have h' := h; (try simp at h'); first | done | simp [h, h'] | simp))))
        refine ⟨1, hlt, ?_, ?_⟩
        · refine sub_mk [(1, _), (2, _), (4, _), (5, _), (6, _)] [(2, 2, _), (4, 4, _), (900, 43, _)] ⟨by simp, by simp, ?_, by simp⟩ ?_
          · simp only [Nat.zero_add, List.take_zero, List.nil_append] at htk
            simp [renOf, Blk.live, htk, V.c]
          · simp [renOf]
            exact wrap_in (by omega) (by omega)
        · simp; omega
      | succ i =>
        have hlt2 : ((i + 1 : Nat) : Int) < ks.length := by omega
        have hlt3 : (i : Int) + 1 < ks.length := by omega
        have hp : (0 : Int) ≤ (i : Int) + 1 := by omega
        have hmin : min (i + 1) ks.length = i + 1 := by omega
        have s1 : (i + 1 + 1) * 32 ≤ 140737488355328 := by omega
        have s2 : i ≤ 9223372036854775805 := by omega
        simp [rvF, hlt, hlt2, hlt3, hp, hgi, c1, k1]
        (repeat' (first | contradiction | exact .of (by kernel_rfl) | refine And.intro ?_ ?_ | intro _ | (refine agrd_cases (fun h => ?_) (fun h => ?_) <;> (have h' := h; (try simp at h'); first | done | simp [h, h'] | simp))))
        refine acallT_plain hr (by simp [Ex.a]) ?_
        simp [V.a, hmin, s1, s2]
        (repeat' (first | contradiction | exact .of (by kernel_rfl) | refine And.intro ?_ ?_ | intro _ | (refine agrd_cases (fun h => ?_) (fun h => ?_) <;> (have h' := h; (try simp at h'); first | done | simp [h, h'] | simp))))
        refine ⟨i + 2, by omega, ?_, ?_⟩
        · refine sub_mk [(1, _), (2, _), (4, _), (5, _), (6, _)] [(2, 2, _), (4, 4, _), (900, 43, _)] ⟨by simp, by simp, ?_, by simp⟩ ?_
          · simp [renOf, Blk.live, htk, V.c]
          · simp [renOf]
            rw [wrap_in (by omega) (by omega)]
        · simp; omega
    have hie : i = ks.length := by omega
    subst hie
    clear hrec hkc hi hlt
    · have : ks = [] := by simpa [cntd, isOp, opOf, ops] using hcn
      subst this
      rw [show evalV (.mk 3 c n t g []) row = ⟨2, n, []⟩ from by simp [evalV, show cntd 3 0 = true from by decide, evalAll, applyV]]
      simp [rvF, V.a]
      (repeat' (first | contradiction | exact .of (by kernel_rfl) | refine And.intro ?_ ?_ | intro _ | (refine agrd_cases (fun h => ?_) (fun h => ?_) <;> (have h' := h; (try simp at h'); first | done | simp [h, h'] | simp))))
theorem re_4 (row : List V) (hrow : row.length ≤ 1000) (c n g : Int) (t : List UInt8) (ks : List Ex) (hk : ks.length ≤ 12)
    (hrec : ∀ e ∈ ks, Cf En 21 [e.a, .d (.sl (row.map V.c))] [] (evalV e row).a []) (hcn : cntd 4 ks.length = true) :
    Cf En 21 [(Ex.mk 4 c n t g ks).a, .d (.sl (row.map V.c))] [] (evalV (.mk 4 c n t g ks) row).a [] := by
    refine cf_intro mix (fn := Tryz.f21) (by kernel_rfl) rfl (by kernel_rfl) (by decide) (by simp) ?_
    have hkc := kids_cntd 4 ks.length (by decide)
    simp [Ex.a, Ex.c, kidsC_map]
    (repeat' (first | contradiction | exact .of (by kernel_rfl) | refine And.intro ?_ ?_ | intro _ | (refine agrd_cases (fun h => ?_) (fun h => ?_) <;> (have h' := h; (try simp at h'); first | done | simp [h, h'] | simp))))
    refine acallT_plain (r_kids 4 ks.length) (by simp) ?_
    rw [hkc, hcn]
    simp
    (repeat' (first | contradiction | exact .of (by kernel_rfl) | refine And.intro ?_ ?_ | intro _ | (refine agrd_cases (fun h => ?_) (fun h => ?_) <;> (have h' := h; (try simp at h'); first | done | simp [h, h'] | simp))))
    refine aloopT mix (by decide) (rvF 4 c n g t ks row) (fun i : Nat => i ≤ ks.length) (fun i => ks.length - i) 0 (by simp) (sub_mk [(1, _), (2, _), (4, _), (5, _), (6, _)] [(2, 2, _), (4, 4, _)] ⟨by simp, by simp, by simp [renOf, Blk.live], by simp⟩ (by simp [renOf])) ?_
    intro i hi
    by_cases hlt : i < ks.length
    · have hgi : ks[i]? = some ks[i] := List.getElem?_eq_getElem hlt
      have c1 := Ex.clen ks[i]
      have k1 := Ex.ctake ks[i]
      have hr := hrec ks[i] (List.getElem_mem hlt)
      have htk : List.take (i + 1) (List.map (fun e => (evalV e row).c) ks) = List.take i (List.map (fun e => (evalV e row).c) ks) ++ [(evalV ks[i] row).c] := by
        rw [List.take_add_one, List.getElem?_map, hgi]; rfl
      simp only [V.c] at htk
      cases i with
      | zero =>
        have hlt2 : (0 : Int) < ks.length := by omega
        simp [rvF, hlt, hlt2, hgi, c1, k1]
        (repeat' (first | contradiction | exact .of (by kernel_rfl) | refine And.intro ?_ ?_ | intro _ | (refine agrd_cases (fun h => ?_) (fun h => ?_) <;> (have h' := h; (try simp at h'); first | done | simp [h, h'] | simp))))
        refine acallT_plain hr (by simp [Ex.a]) ?_
        simp [V.a]
        (repeat' (first | contradiction | exact .of (by kernel_rfl) | refine And.intro ?_ ?_ | intro _ | (refine agrd_cases (fun h => ?_) (fun h => ?_) <;> (have h' := h; (try simp at h'); first | done | simp [h, h'] | simp))))
        refine ⟨1, hlt, ?_, ?_⟩
        · refine sub_mk [(1, _), (2, _), (4, _), (5, _), (6, _)] [(2, 2, _), (4, 4, _), (900, 43, _)] ⟨by simp, by simp, ?_, by simp⟩ ?_
          · simp only [Nat.zero_add, List.take_zero, List.nil_append] at htk
            simp [renOf, Blk.live, htk, V.c]
          · simp [renOf]
            exact wrap_in (by omega) (by omega)
        · simp; omega
      | succ i =>
        have hlt2 : ((i + 1 : Nat) : Int) < ks.length := by omega
        have hlt3 : (i : Int) + 1 < ks.length := by omega
        have hp : (0 : Int) ≤ (i : Int) + 1 := by omega
        have hmin : min (i + 1) ks.length = i + 1 := by omega
        have s1 : (i + 1 + 1) * 32 ≤ 140737488355328 := by omega
        have s2 : i ≤ 9223372036854775805 := by omega
        simp [rvF, hlt, hlt2, hlt3, hp, hgi, c1, k1]
        (repeat' (first | contradiction | exact .of (by kernel_rfl) | refine And.intro ?_ ?_ | intro _ | (refine agrd_cases (fun h => ?_) (fun h => ?_) <;> (have h' := h; (try simp at h'); first | done | simp [h, h'] | simp))))
        refine acallT_plain hr (by simp [Ex.a]) ?_
        simp [V.a, hmin, s1, s2]
        (repeat' (first | contradiction | exact .of (by kernel_rfl) | refine And.intro ?_ ?_ | intro _ | (refine agrd_cases (fun h => ?_) (fun h => ?_) <;> (have h' := h; (try simp at h'); first | done | simp [h, h'] | simp))))
        refine ⟨i + 2, by omega, ?_, ?_⟩
        · refine sub_mk [(1, _), (2, _), (4, _), (5, _), (6, _)] [(2, 2, _), (4, 4, _), (900, 43, _)] ⟨by simp, by simp, ?_, by simp⟩ ?_
          · simp [renOf, Blk.live, htk, V.c]
          · simp [renOf]
            rw [wrap_in (by omega) (by omega)]
        · simp; omega
    have hie : i = ks.length := by omega
    subst hie
    clear hrec hkc hi hlt
    · have : ks = [] := by simpa [cntd, isOp, opOf, ops] using hcn
      subst this
      rw [show evalV (.mk 4 c n t g []) row = ⟨3, 0, t⟩ from by simp [evalV, show cntd 4 0 = true from by decide, evalAll, applyV]]
      simp [rvF, V.a]
      (repeat' (first | contradiction | exact .of (by kernel_rfl) | refine And.intro ?_ ?_ | intro _ | (refine agrd_cases (fun h => ?_) (fun h => ?_) <;> (have h' := h; (try simp at h'); first | done | simp [h, h'] | simp))))
theorem re_5 (row : List V) (hrow : row.length ≤ 1000) (c n g : Int) (t : List UInt8) (ks : List Ex) (hk : ks.length ≤ 12)
    (hrec : ∀ e ∈ ks, Cf En 21 [e.a, .d (.sl (row.map V.c))] [] (evalV e row).a []) (hcn : cntd 5 ks.length = true) :
    Cf En 21 [(Ex.mk 5 c n t g ks).a, .d (.sl (row.map V.c))] [] (evalV (.mk 5 c n t g ks) row).a [] := by
    refine cf_intro mix (fn := Tryz.f21) (by kernel_rfl) rfl (by kernel_rfl) (by decide) (by simp) ?_
    have hkc := kids_cntd 5 ks.length (by decide)
    simp [Ex.a, Ex.c, kidsC_map]
    (repeat' (first | contradiction | exact .of (by kernel_rfl) | refine And.intro ?_ ?_ | intro _ | (refine agrd_cases (fun h => ?_) (fun h => ?_) <;> (have h' := h; (try simp at h'); first | done | simp [h, h'] | simp))))
    refine acallT_plain (r_kids 5 ks.length) (by simp) ?_
    rw [hkc, hcn]
    simp
    (repeat' (first | contradiction | exact .of (by kernel_rfl) | refine And.intro ?_ ?_ | intro _ | (refine agrd_cases (fun h => ?_) (fun h => ?_) <;> (have h' := h; (try simp at h'); first | done | simp [h, h'] | simp))))
    refine aloopT mix (by decide) (rvF 5 c n g t ks row) (fun i : Nat => i ≤ ks.length) (fun i => ks.length - i) 0 (by simp) (sub_mk [(1, _), (2, _), (4, _), (5, _), (6, _)] [(2, 2, _), (4, 4, _)] ⟨by simp, by simp, by simp [renOf, Blk.live], by simp⟩ (by simp [renOf])) ?_
    intro i hi
    by_cases hlt : i < ks.length
    · have hgi : ks[i]? = some ks[i] := List.getElem?_eq_getElem hlt
      have c1 := Ex.clen ks[i]
      have k1 := Ex.ctake ks[i]
      have hr := hrec ks[i] (List.getElem_mem hlt)
      have htk : List.take (i + 1) (List.map (fun e => (evalV e row).c) ks) = List.take i (List.map (fun e => (evalV e row).c) ks) ++ [(evalV ks[i] row).c] := by
        rw [List.take_add_one, List.getElem?_map, hgi]; rfl
      simp only [V.c] at htk
      cases i with
      | zero =>
        have hlt2 : (0 : Int) < ks.length := by omega
        simp [rvF, hlt, hlt2, hgi, c1, k1]
        (repeat' (first | contradiction | exact .of (by kernel_rfl) | refine And.intro ?_ ?_ | intro _ | (refine agrd_cases (fun h => ?_) (fun h => ?_) <;> (have h' := h; (try simp at h'); first | done | simp [h, h'] | simp))))
        refine acallT_plain hr (by simp [Ex.a]) ?_
        simp [V.a]
        (repeat' (first | contradiction | exact .of (by kernel_rfl) | refine And.intro ?_ ?_ | intro _ | (refine agrd_cases (fun h => ?_) (fun h => ?_) <;> (have h' := h; (try simp at h'); first | done | simp [h, h'] | simp))))
        refine ⟨1, hlt, ?_, ?_⟩
        · refine sub_mk [(1, _), (2, _), (4, _), (5, _), (6, _)] [(2, 2, _), (4, 4, _), (900, 43, _)] ⟨by simp, by simp, ?_, by simp⟩ ?_
          · simp only [Nat.zero_add, List.take_zero, List.nil_append] at htk
            simp [renOf, Blk.live, htk, V.c]
          · simp [renOf]
            exact wrap_in (by omega) (by omega)
        · simp; omega
      | succ i =>
        have hlt2 : ((i + 1 : Nat) : Int) < ks.length := by omega
        have hlt3 : (i : Int) + 1 < ks.length := by omega
        have hp : (0 : Int) ≤ (i : Int) + 1 := by omega
        have hmin : min (i + 1) ks.length = i + 1 := by omega
        have s1 : (i + 1 + 1) * 32 ≤ 140737488355328 := by omega
        have s2 : i ≤ 9223372036854775805 := by omega
        simp [rvF, hlt, hlt2, hlt3, hp, hgi, c1, k1]
        (repeat' (first | contradiction | exact .of (by kernel_rfl) | refine And.intro ?_ ?_ | intro _ | (refine agrd_cases (fun h => ?_) (fun h => ?_) <;> (have h' := h; (try simp at h'); first | done | simp [h, h'] | simp))))
        refine acallT_plain hr (by simp [Ex.a]) ?_
        simp [V.a, hmin, s1, s2]
        (repeat' (first | contradiction | exact .of (by kernel_rfl) | refine And.intro ?_ ?_ | intro _ | (refine agrd_cases (fun h => ?_) (fun h => ?_) <;> (have h' := h; (try simp at h'); first | done | simp [h, h'] | simp))))
        refine ⟨i + 2, by omega, ?_, ?_⟩
        · refine sub_mk [(1, _), (2, _), (4, _), (5, _), (6, _)] [(2, 2, _), (4, 4, _), (900, 43, _)] ⟨by simp, by simp, ?_, by simp⟩ ?_
          · simp [renOf, Blk.live, htk, V.c]
          · simp [renOf]
            rw [wrap_in (by omega) (by omega)]
        · simp; omega
    have hie : i = ks.length := by omega
    subst hie
    clear hrec hkc hi hlt
    · have : ks = [] := by simpa [cntd, isOp, opOf, ops] using hcn
      subst this
      by_cases hg : 0 ≤ g ∧ g < row.length
      · have hgr : row[g.toNat]? = some row[g.toNat] := List.getElem?_eq_getElem (by omega)
        have hg1 : ¬ g < 0 := by omega
        have hg2 : ¬ (row.length : Int) ≤ g := by omega
        rw [show evalV (.mk 5 c n t g []) row = row[g.toNat] from by simp [evalV, show cntd 5 0 = true from by decide, hg, hgr]]
        simp [rvF, V.a, hg.1, hg.2, hgr, hg1, hg2, V.c]
        (repeat' (first | contradiction | exact .of (by kernel_rfl) | refine And.intro ?_ ?_ | intro _ | (refine agrd_cases (fun h => ?_) (fun h => ?_) <;> (have h' := h; (try simp at h'); first | done | simp [h, h', hg.1, hg.2, hgr, hg1, hg2] | simp [hg.1, hg.2, hgr, hg1, hg2]))))
      · rw [show evalV (.mk 5 c n t g []) row = nulV from by simp [evalV, show cntd 5 0 = true from by decide, hg]]
        simp [rvF, V.a, nulV]
        (repeat' (first | contradiction | exact .of (by kernel_rfl) | refine And.intro ?_ ?_ | intro _ | (refine agrd_cases (fun h => ?_) (fun h => ?_) <;> (have h' := h; (try simp at h'); first | done | simp [h, h'] | simp))))
        all_goals (exfalso; omega)
theorem re_6 (row : List V) (hrow : row.length ≤ 1000) (c n g : Int) (t : List UInt8) (ks : List Ex) (hk : ks.length ≤ 12)
    (hrec : ∀ e ∈ ks, Cf En 21 [e.a, .d (.sl (row.map V.c))] [] (evalV e row).a []) (hcn : cntd 6 ks.length = true) :
    Cf En 21 [(Ex.mk 6 c n t g ks).a, .d (.sl (row.map V.c))] [] (evalV (.mk 6 c n t g ks) row).a [] := by
    refine cf_intro mix (fn := Tryz.f21) (by kernel_rfl) rfl (by kernel_rfl) (by decide) (by simp) ?_
    have hkc := kids_cntd 6 ks.length (by decide)
    simp [Ex.a, Ex.c, kidsC_map]
    (repeat' (first | contradiction | exact .of (by kernel_rfl) | refine And.intro ?_ ?_ | intro _ | (refine agrd_cases (fun h => ?_) (fun h => ?_) <;> (have h' := h; (try simp at h'); first | done | simp [h, h'] | simp))))
    refine acallT_plain (r_kids 6 ks.length) (by simp) ?_
    rw [hkc, hcn]
    simp
    (repeat' (first | contradiction | exact .of (by kernel_rfl) | refine And.intro ?_ ?_ | intro _ | (refine agrd_cases (fun h => ?_) (fun h => ?_) <;> (have h' := h; (try simp at h'); first | done | simp [h, h'] | simp))))
    refine aloopT mix (by decide) (rvF 6 c n g t ks row) (fun i : Nat => i ≤ ks.length) (fun i => ks.length - i) 0 (by simp) (sub_mk [(1, _), (2, _), (4, _), (5, _), (6, _)] [(2, 2, _), (4, 4, _)] ⟨by simp, by simp, by simp [renOf, Blk.live], by simp⟩ (by simp [renOf])) ?_
    intro i hi
    by_cases hlt : i < ks.length
    · have hgi : ks[i]? = some ks[i] := List.getElem?_eq_getElem hlt
      have c1 := Ex.clen ks[i]
      have k1 := Ex.ctake ks[i]
      have hr := hrec ks[i] (List.getElem_mem hlt)
      have htk : List.take (i + 1) (List.map (fun e => (evalV e row).c) ks) = List.take i (List.map (fun e => (evalV e row).c) ks) ++ [(evalV ks[i] row).c] := by
        rw [List.take_add_one, List.getElem?_map, hgi]; rfl
      simp only [V.c] at htk
      cases i with
      | zero =>
        have hlt2 : (0 : Int) < ks.length := by omega
        simp [rvF, hlt, hlt2, hgi, c1, k1]
        (repeat' (first | contradiction | exact .of (by kernel_rfl) | refine And.intro ?_ ?_ | intro _ | (refine agrd_cases (fun h => ?_) (fun h => ?_) <;> (have h' := h; (try simp at h'); first | done | simp [h, h'] | simp))))
        refine acallT_plain hr (by simp [Ex.a]) ?_
        simp [V.a]
        (repeat' (first | contradiction | exact .of (by kernel_rfl) | refine And.intro ?_ ?_ | intro _ | (refine agrd_cases (fun h => ?_) (fun h => ?_) <;> (have h' := h; (try simp at h'); first | done | simp [h, h'] | simp))))
        refine ⟨1, hlt, ?_, ?_⟩
        · refine sub_mk [(1, _), (2, _), (4, _), (5, _), (6, _)] [(2, 2, _), (4, 4, _), (900, 43, _)] ⟨by simp, by simp, ?_, by simp⟩ ?_
          · simp only [Nat.zero_add, List.take_zero, List.nil_append] at htk
            simp [renOf, Blk.live, htk, V.c]
          · simp [renOf]
            exact wrap_in (by omega) (by omega)
        · simp; omega
      | succ i =>
        have hlt2 : ((i + 1 : Nat) : Int) < ks.length := by omega
        have hlt3 : (i : Int) + 1 < ks.length := by omega
        have hp : (0 : Int) ≤ (i : Int) + 1 := by omega
        have hmin : min (i + 1) ks.length = i + 1 := by omega
        have s1 : (i + 1 + 1) * 32 ≤ 140737488355328 := by omega
        have s2 : i ≤ 9223372036854775805 := by omega
        simp [rvF, hlt, hlt2, hlt3, hp, hgi, c1, k1]
        (repeat' (first | contradiction | exact .of (by kernel_rfl) | refine And.intro ?_ ?_ | intro _ | (refine agrd_cases (fun h => ?_) (fun h => ?_) <;> (have h' := h; (try simp at h'); first | done | simp [h, h'] | simp))))
        refine acallT_plain hr (by simp [Ex.a]) ?_
        simp [V.a, hmin, s1, s2]
        (repeat' (first | contradiction | exact .of (by kernel_rfl) | refine And.intro ?_ ?_ | intro _ | (refine agrd_cases (fun h => ?_) (fun h => ?_) <;> (have h' := h; (try simp at h'); first | done | simp [h, h'] | simp))))
        refine ⟨i + 2, by omega, ?_, ?_⟩
        · refine sub_mk [(1, _), (2, _), (4, _), (5, _), (6, _)] [(2, 2, _), (4, 4, _), (900, 43, _)] ⟨by simp, by simp, ?_, by simp⟩ ?_
          · simp [renOf, Blk.live, htk, V.c]
          · simp [renOf]
            rw [wrap_in (by omega) (by omega)]
        · simp; omega
    have hie : i = ks.length := by omega
    subst hie
    clear hrec hkc hi hlt
    · obtain ⟨a, b, rfl⟩ : ∃ a b, ks = [a, b] := by
        have hl : ks.length = 2 := by simp [cntd, isOp, opOf, ops] at hcn; omega
        match ks, hl with
        | [a, b], _ => exact ⟨a, b, rfl⟩
      have he : evalV (.mk 6 c n t g [a, b]) row = arV 6 (evalV a row) (evalV b row) := by simp [evalV, show cntd 6 2 = true from by decide, evalAll, applyV, at0, at1]
      rw [he]
      simp [rvF, V.c]
      (repeat' (first | contradiction | exact .of (by kernel_rfl) | refine And.intro ?_ ?_ | intro _ | (refine agrd_cases (fun h => ?_) (fun h => ?_) <;> (have h' := h; (try simp at h'); first | done | simp [h, h'] | simp))))
      refine acallT_plain (r_arith 6 (evalV a row) (evalV b row)) (by simp [V.a]) ?_
      simp [V.a]
      (repeat' (first | contradiction | exact .of (by kernel_rfl) | refine And.intro ?_ ?_ | intro _ | (refine agrd_cases (fun h => ?_) (fun h => ?_) <;> (have h' := h; (try simp at h'); first | done | simp [h, h'] | simp))))
theorem re_7 (row : List V) (hrow : row.length ≤ 1000) (c n g : Int) (t : List UInt8) (ks : List Ex) (hk : ks.length ≤ 12)
    (hrec : ∀ e ∈ ks, Cf En 21 [e.a, .d (.sl (row.map V.c))] [] (evalV e row).a []) (hcn : cntd 7 ks.length = true) :
    Cf En 21 [(Ex.mk 7 c n t g ks).a, .d (.sl (row.map V.c))] [] (evalV (.mk 7 c n t g ks) row).a [] := by
    refine cf_intro mix (fn := Tryz.f21) (by kernel_rfl) rfl (by kernel_rfl) (by decide) (by simp) ?_
    have hkc := kids_cntd 7 ks.length (by decide)
    simp [Ex.a, Ex.c, kidsC_map]
    (repeat' (first | contradiction | exact .of (by kernel_rfl) | refine And.intro ?_ ?_ | intro _ | (refine agrd_cases (fun h => ?_) (fun h => ?_) <;> (have h' := h; (try simp at h'); first | done | simp [h, h'] | simp))))
    refine acallT_plain (r_kids 7 ks.length) (by simp) ?_
    rw [hkc, hcn]
    simp
    (repeat' (first | contradiction | exact .of (by kernel_rfl) | refine And.intro ?_ ?_ | intro _ | (refine agrd_cases (fun h => ?_) (fun h => ?_) <;> (have h' := h; (try simp at h'); first | done | simp [h, h'] | simp))))
    refine aloopT mix (by decide) (rvF 7 c n g t ks row) (fun i : Nat => i ≤ ks.length) (fun i => ks.length - i) 0 (by simp) (sub_mk [(1, _), (2, _), (4, _), (5, _), (6, _)] [(2, 2, _), (4, 4, _)] ⟨by simp, by simp, by simp [renOf, Blk.live], by simp⟩ (by simp [renOf])) ?_
    intro i hi
    by_cases hlt : i < ks.length
    · have hgi : ks[i]? = some ks[i] := List.getElem?_eq_getElem hlt
      have c1 := Ex.clen ks[i]
      have k1 := Ex.ctake ks[i]
      have hr := hrec ks[i] (List.getElem_mem hlt)
      have htk : List.take (i + 1) (List.map (fun e => (evalV e row).c) ks) = List.take i (List.map (fun e => (evalV e row).c) ks) ++ [(evalV ks[i] row).c] := by
        rw [List.take_add_one, List.getElem?_map, hgi]; rfl
      simp only [V.c] at htk
      cases i with
      | zero =>
        have hlt2 : (0 : Int) < ks.length := by omega
        simp [rvF, hlt, hlt2, hgi, c1, k1]
        (repeat' (first | contradiction | exact .of (by kernel_rfl) | refine And.intro ?_ ?_ | intro _ | (refine agrd_cases (fun h => ?_) (fun h => ?_) <;> (have h' := h; (try simp at h'); first | done | simp [h, h'] | simp))))
        refine acallT_plain hr (by simp [Ex.a]) ?_
        simp [V.a]
        (repeat' (first | contradiction | exact .of (by kernel_rfl) | refine And.intro ?_ ?_ | intro _ | (refine agrd_cases (fun h => ?_) (fun h => ?_) <;> (have h' := h; (try simp at h'); first | done | simp [h, h'] | simp))))
        refine ⟨1, hlt, ?_, ?_⟩
        · refine sub_mk [(1, _), (2, _), (4, _), (5, _), (6, _)] [(2, 2, _), (4, 4, _), (900, 43, _)] ⟨by simp, by simp, ?_, by simp⟩ ?_
          · simp only [Nat.zero_add, List.take_zero, List.nil_append] at htk
            simp [renOf, Blk.live, htk, V.c]
          · simp [renOf]
            exact wrap_in (by omega) (by omega)
        · simp; omega
      | succ i =>
        have hlt2 : ((i + 1 : Nat) : Int) < ks.length := by omega
        have hlt3 : (i : Int) + 1 < ks.length := by omega
        have hp : (0 : Int) ≤ (i : Int) + 1 := by omega
        have hmin : min (i + 1) ks.length = i + 1 := by omega
        have s1 : (i + 1 + 1) * 32 ≤ 140737488355328 := by omega
        have s2 : i ≤ 9223372036854775805 := by omega
        simp [rvF, hlt, hlt2, hlt3, hp, hgi, c1, k1]
        (repeat' (first | contradiction | exact .of (by kernel_rfl) | refine And.intro ?_ ?_ | intro _ | (refine agrd_cases (fun h => ?_) (fun h => ?_) <;> (have h' := h; (try simp at h'); first | done | simp [h, h'] | simp))))
        refine acallT_plain hr (by simp [Ex.a]) ?_
        simp [V.a, hmin, s1, s2]
        (repeat' (first | contradiction | exact .of (by kernel_rfl) | refine And.intro ?_ ?_ | intro _ | (refine agrd_cases (fun h => ?_) (fun h => ?_) <;> (have h' := h; (try simp at h'); first | done | simp [h, h'] | simp))))
        refine ⟨i + 2, by omega, ?_, ?_⟩
        · refine sub_mk [(1, _), (2, _), (4, _), (5, _), (6, _)] [(2, 2, _), (4, 4, _), (900, 43, _)] ⟨by simp, by simp, ?_, by simp⟩ ?_
          · simp [renOf, Blk.live, htk, V.c]
          · simp [renOf]
            rw [wrap_in (by omega) (by omega)]
        · simp; omega
    have hie : i = ks.length := by omega
    subst hie
    clear hrec hkc hi hlt
    · obtain ⟨a, b, rfl⟩ : ∃ a b, ks = [a, b] := by
        have hl : ks.length = 2 := by simp [cntd, isOp, opOf, ops] at hcn; omega
        match ks, hl with
        | [a, b], _ => exact ⟨a, b, rfl⟩
      have he : evalV (.mk 7 c n t g [a, b]) row = arV 7 (evalV a row) (evalV b row) := by simp [evalV, show cntd 7 2 = true from by decide, evalAll, applyV, at0, at1]
      rw [he]
      simp [rvF, V.c]
      (repeat' (first | contradiction | exact .of (by kernel_rfl) | refine And.intro ?_ ?_ | intro _ | (refine agrd_cases (fun h => ?_) (fun h => ?_) <;> (have h' := h; (try simp at h'); first | done | simp [h, h'] | simp))))
      refine acallT_plain (r_arith 7 (evalV a row) (evalV b row)) (by simp [V.a]) ?_
      simp [V.a]
      (repeat' (first | contradiction | exact .of (by kernel_rfl) | refine And.intro ?_ ?_ | intro _ | (refine agrd_cases (fun h => ?_) (fun h => ?_) <;> (have h' := h; (try simp at h'); first | done | simp [h, h'] | simp))))
theorem re_8 (row : List V) (hrow : row.length ≤ 1000) (c n g : Int) (t : List UInt8) (ks : List Ex) (hk : ks.length ≤ 12)
    (hrec : ∀ e ∈ ks, Cf En 21 [e.a, .d (.sl (row.map V.c))] [] (evalV e row).a []) (hcn : cntd 8 ks.length = true) :
    Cf En 21 [(Ex.mk 8 c n t g ks).a, .d (.sl (row.map V.c))] [] (evalV (.mk 8 c n t g ks) row).a [] := by
    refine cf_intro mix (fn := Tryz.f21) (by kernel_rfl) rfl (by kernel_rfl) (by decide) (by simp) ?_
    have hkc := kids_cntd 8 ks.length (by decide)
    simp [Ex.a, Ex.c, kidsC_map]
    (repeat' (first | contradiction | exact .of (by kernel_rfl) | refine And.intro ?_ ?_ | intro _ | (refine agrd_cases (fun h => ?_) (fun h => ?_) <;> (have h' := h; (try simp at h'); first | done | simp [h, h'] | simp))))
    refine acallT_plain (r_kids 8 ks.length) (by simp) ?_
    rw [hkc, hcn]
    simp
    (repeat' (first | contradiction | exact .of (by kernel_rfl) | refine And.intro ?_ ?_ | intro _ | (refine agrd_cases (fun h => ?_) (fun h => ?_) <;> (have h' := h; (try simp at h'); first | done | simp [h, h'] | simp))))
    refine aloopT mix (by decide) (rvF 8 c n g t ks row) (fun i : Nat => i ≤ ks.length) (fun i => ks.length - i) 0 (by simp) (sub_mk [(1, _), (2, _), (4, _), (5, _), (6, _)] [(2, 2, _), (4, 4, _)] ⟨by simp, by simp, by simp [renOf, Blk.live], by simp⟩ (by simp [renOf])) ?_
    intro i hi
    by_cases hlt : i < ks.length
    · have hgi : ks[i]? = some ks[i] := List.getElem?_eq_getElem hlt
      have c1 := Ex.clen ks[i]
      have k1 := Ex.ctake ks[i]
      have hr := hrec ks[i] (List.getElem_mem hlt)
      have htk : List.take (i + 1) (List.map (fun e => (evalV e row).c) ks) = List.take i (List.map (fun e => (evalV e row).c) ks) ++ [(evalV ks[i] row).c] := by
        rw [List.take_add_one, List.getElem?_map, hgi]; rfl
      simp only [V.c] at htk
      cases i with
      | zero =>
        have hlt2 : (0 : Int) < ks.length := by omega
        simp [rvF, hlt, hlt2, hgi, c1, k1]
        (repeat' (first | contradiction | exact .of (by kernel_rfl) | refine And.intro ?_ ?_ | intro _ | (refine agrd_cases (fun h => ?_) (fun h => ?_) <;> (have h' := h; (try simp at h'); first | done | simp [h, h'] | simp))))
        refine acallT_plain hr (by simp [Ex.a]) ?_
        simp [V.a]
        (repeat' (first | contradiction | exact .of (by kernel_rfl) | refine And.intro ?_ ?_ | intro _ | (refine agrd_cases (fun h => ?_) (fun h => ?_) <;> (have h' := h; (try simp at h'); first | done | simp [h, h'] | simp))))
        refine ⟨1, hlt, ?_, ?_⟩
        · refine sub_mk [(1, _), (2, _), (4, _), (5, _), (6, _)] [(2, 2, _), (4, 4, _), (900, 43, _)] ⟨by simp, by simp, ?_, by simp⟩ ?_
          · simp only [Nat.zero_add, List.take_zero, List.nil_append] at htk
            simp [renOf, Blk.live, htk, V.c]
          · simp [renOf]
            exact wrap_in (by omega) (by omega)
        · simp; omega
      | succ i =>
        have hlt2 : ((i + 1 : Nat) : Int) < ks.length := by omega
        have hlt3 : (i : Int) + 1 < ks.length := by omega
        have hp : (0 : Int) ≤ (i : Int) + 1 := by omega
        have hmin : min (i + 1) ks.length = i + 1 := by omega
        have s1 : (i + 1 + 1) * 32 ≤ 140737488355328 := by omega
        have s2 : i ≤ 9223372036854775805 := by omega
        simp [rvF, hlt, hlt2, hlt3, hp, hgi, c1, k1]
        (repeat' (first | contradiction | exact .of (by kernel_rfl) | refine And.intro ?_ ?_ | intro _ | (refine agrd_cases (fun h => ?_) (fun h => ?_) <;> (have h' := h; (try simp at h'); first | done | simp [h, h'] | simp))))
        refine acallT_plain hr (by simp [Ex.a]) ?_
        simp [V.a, hmin, s1, s2]
        (repeat' (first | contradiction | exact .of (by kernel_rfl) | refine And.intro ?_ ?_ | intro _ | (refine agrd_cases (fun h => ?_) (fun h => ?_) <;> (have h' := h; (try simp at h'); first | done | simp [h, h'] | simp))))
        refine ⟨i + 2, by omega, ?_, ?_⟩
        · refine sub_mk [(1, _), (2, _), (4, _), (5, _), (6, _)] [(2, 2, _), (4, 4, _), (900, 43, _)] ⟨by simp, by simp, ?_, by simp⟩ ?_
          · simp [renOf, Blk.live, htk, V.c]
          · simp [renOf]
            rw [wrap_in (by omega) (by omega)]
        · simp; omega
    have hie : i = ks.length := by omega
    subst hie
    clear hrec hkc hi hlt
    · obtain ⟨a, b, rfl⟩ : ∃ a b, ks = [a, b] := by
        have hl : ks.length = 2 := by simp [cntd, isOp, opOf, ops] at hcn; omega
        match ks, hl with
        | [a, b], _ => exact ⟨a, b, rfl⟩
      have he : evalV (.mk 8 c n t g [a, b]) row = arV 8 (evalV a row) (evalV b row) := by simp [evalV, show cntd 8 2 = true from by decide, evalAll, applyV, at0, at1]
      rw [he]
      simp [rvF, V.c]
      (repeat' (first | contradiction | exact .of (by kernel_rfl) | refine And.intro ?_ ?_ | intro _ | (refine agrd_cases (fun h => ?_) (fun h => ?_) <;> (have h' := h; (try simp at h'); first | done | simp [h, h'] | simp))))
      refine acallT_plain (r_arith 8 (evalV a row) (evalV b row)) (by simp [V.a]) ?_
      simp [V.a]
      (repeat' (first | contradiction | exact .of (by kernel_rfl) | refine And.intro ?_ ?_ | intro _ | (refine agrd_cases (fun h => ?_) (fun h => ?_) <;> (have h' := h; (try simp at h'); first | done | simp [h, h'] | simp))))
theorem re_9 (row : List V) (hrow : row.length ≤ 1000) (c n g : Int) (t : List UInt8) (ks : List Ex) (hk : ks.length ≤ 12)
    (hrec : ∀ e ∈ ks, Cf En 21 [e.a, .d (.sl (row.map V.c))] [] (evalV e row).a []) (hcn : cntd 9 ks.length = true) :
    Cf En 21 [(Ex.mk 9 c n t g ks).a, .d (.sl (row.map V.c))] [] (evalV (.mk 9 c n t g ks) row).a [] := by
    refine cf_intro mix (fn := Tryz.f21) (by kernel_rfl) rfl (by kernel_rfl) (by decide) (by simp) ?_
    have hkc := kids_cntd 9 ks.length (by decide)
    simp [Ex.a, Ex.c, kidsC_map]
    (repeat' (first | contradiction | exact .of (by kernel_rfl) | refine And.intro ?_ ?_ | intro _ | (refine agrd_cases (fun h => ?_) (fun h => ?_) <;> (have h' := h; (try simp at h'); first | done | simp [h, h'] | simp))))
    refine acallT_plain (r_kids 9 ks.length) (by simp) ?_
    rw [hkc, hcn]
    simp
    (repeat' (first | contradiction | exact .of (by kernel_rfl) | refine And.intro ?_ ?_ | intro _ | (refine agrd_cases (fun h => ?_) (fun h => ?_) <;> (have h' := h; (try simp at h'); first | done | simp [h, h'] | simp))))
    refine aloopT mix (by decide) (rvF 9 c n g t ks row) (fun i : Nat => i ≤ ks.length) (fun i => ks.length - i) 0 (by simp) (sub_mk [(1, _), (2, _), (4, _), (5, _), (6, _)] [(2, 2, _), (4, 4, _)] ⟨by simp, by simp, by simp [renOf, Blk.live], by simp⟩ (by simp [renOf])) ?_
    intro i hi
    by_cases hlt : i < ks.length
    · have hgi : ks[i]? = some ks[i] := List.getElem?_eq_getElem hlt
      have c1 := Ex.clen ks[i]
      have k1 := Ex.ctake ks[i]
      have hr := hrec ks[i] (List.getElem_mem hlt)
      have htk : List.take (i + 1) (List.map (fun e => (evalV e row).c) ks) = List.take i (List.map (fun e => (evalV e row).c) ks) ++ [(evalV ks[i] row).c] := by
        rw [List.take_add_one, List.getElem?_map, hgi]; rfl
      simp only [V.c] at htk
      cases i with
      | zero =>
        have hlt2 : (0 : Int) < ks.length := by omega
        simp [rvF, hlt, hlt2, hgi, c1, k1]
        (repeat' (first | contradiction | exact .of (by kernel_rfl) | refine And.intro ?_ ?_ | intro _ | (refine agrd_cases (fun h => ?_) (fun h => ?_) <;> (have h' := h; (try simp at h'); first | done | simp [h, h'] | simp))))
        refine acallT_plain hr (by simp [Ex.a]) ?_
        simp [V.a]
        (repeat' (first | contradiction | exact .of (by kernel_rfl) | refine And.intro ?_ ?_ | intro _ | (refine agrd_cases (fun h => ?_) (fun h => ?_) <;> (have h' := h; (try simp at h'); first | done | simp [h, h'] | simp))))
        refine ⟨1, hlt, ?_, ?_⟩
        · refine sub_mk [(1, _), (2, _), (4, _), (5, _), (6, _)] [(2, 2, _), (4, 4, _), (900, 43, _)] ⟨by simp, by simp, ?_, by simp⟩ ?_
          · simp only [Nat.zero_add, List.take_zero, List.nil_append] at htk
            simp [renOf, Blk.live, htk, V.c]
          · simp [renOf]
            exact wrap_in (by omega) (by omega)
        · simp; omega
      | succ i =>
        have hlt2 : ((i + 1 : Nat) : Int) < ks.length := by omega
        have hlt3 : (i : Int) + 1 < ks.length := by omega
        have hp : (0 : Int) ≤ (i : Int) + 1 := by omega
        have hmin : min (i + 1) ks.length = i + 1 := by omega
        have s1 : (i + 1 + 1) * 32 ≤ 140737488355328 := by omega
        have s2 : i ≤ 9223372036854775805 := by omega
        simp [rvF, hlt, hlt2, hlt3, hp, hgi, c1, k1]
        (repeat' (first | contradiction | exact .of (by kernel_rfl) | refine And.intro ?_ ?_ | intro _ | (refine agrd_cases (fun h => ?_) (fun h => ?_) <;> (have h' := h; (try simp at h'); first | done | simp [h, h'] | simp))))
        refine acallT_plain hr (by simp [Ex.a]) ?_
        simp [V.a, hmin, s1, s2]
        (repeat' (first | contradiction | exact .of (by kernel_rfl) | refine And.intro ?_ ?_ | intro _ | (refine agrd_cases (fun h => ?_) (fun h => ?_) <;> (have h' := h; (try simp at h'); first | done | simp [h, h'] | simp))))
        refine ⟨i + 2, by omega, ?_, ?_⟩
        · refine sub_mk [(1, _), (2, _), (4, _), (5, _), (6, _)] [(2, 2, _), (4, 4, _), (900, 43, _)] ⟨by simp, by simp, ?_, by simp⟩ ?_
          · simp [renOf, Blk.live, htk, V.c]
          · simp [renOf]
            rw [wrap_in (by omega) (by omega)]
        · simp; omega
    have hie : i = ks.length := by omega
    subst hie
    clear hrec hkc hi hlt
    · obtain ⟨a, b, rfl⟩ : ∃ a b, ks = [a, b] := by
        have hl : ks.length = 2 := by simp [cntd, isOp, opOf, ops] at hcn; omega
        match ks, hl with
        | [a, b], _ => exact ⟨a, b, rfl⟩
      have he : evalV (.mk 9 c n t g [a, b]) row = arV 9 (evalV a row) (evalV b row) := by simp [evalV, show cntd 9 2 = true from by decide, evalAll, applyV, at0, at1]
      rw [he]
      simp [rvF, V.c]
      (repeat' (first | contradiction | exact .of (by kernel_rfl) | refine And.intro ?_ ?_ | intro _ | (refine agrd_cases (fun h => ?_) (fun h => ?_) <;> (have h' := h; (try simp at h'); first | done | simp [h, h'] | simp))))
      refine acallT_plain (r_arith 9 (evalV a row) (evalV b row)) (by simp [V.a]) ?_
      simp [V.a]
      (repeat' (first | contradiction | exact .of (by kernel_rfl) | refine And.intro ?_ ?_ | intro _ | (refine agrd_cases (fun h => ?_) (fun h => ?_) <;> (have h' := h; (try simp at h'); first | done | simp [h, h'] | simp))))
end Go.Proofs.Tryz
