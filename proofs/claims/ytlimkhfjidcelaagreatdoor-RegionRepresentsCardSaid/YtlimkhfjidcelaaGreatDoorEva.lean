/- Expressions: their values. -/
import Derived.Test.YtlimkhfjidcelaaGreatDoorApp
set_option linter.all false
namespace Go.Proofs.Tryz
open Go.Ab
set_option maxRecDepth 100000
set_option maxHeartbeats 4000000

def at2 (l : List V) : V := (l[2]?).getD nulV
mutual
def evalV : Ex → List V → V
  | .mk o _ n t g ks, row => if cntd o ks.length = true then
      if o = 2 then ⟨1, n, []⟩ else if o = 3 then ⟨2, n, []⟩ else if o = 4 then ⟨3, 0, t⟩
      else if o = 5 then (if 0 ≤ g ∧ g < row.length then (row[g.toNat]?).getD nulV else nulV)
      else if o = 26 then (if (at0 (evalAll ks row)).tr = 1 then at1 (evalAll ks row) else at2 (evalAll ks row))
      else applyV o (evalAll ks row)
    else nulV
def evalAll : List Ex → List V → List V
  | [], _ => []
  | e :: es, row => evalV e row :: evalAll es row
end
theorem evalAll_map : ∀ (l : List Ex) (row : List V), evalAll l row = l.map fun e => evalV e row
  | [], _ => rfl
  | e :: es, row => by rw [evalAll, evalAll_map es row]; rfl
theorem few_kids {o c n : Int} {t : List UInt8} {g : Int} {ks : List Ex} {q : Nat} (hq : (Ex.mk o c n t g ks).few q = true) : ks.length ≤ 12 ∧ t.length ≤ 200 ∧ ∀ e ∈ ks, e.few (q + 1) = true := by
  rw [Ex.few] at hq
  by_cases h1 : 60 < q
  · simp [h1] at hq
  by_cases h2 : 12 < ks.length
  · simp [h1, h2] at hq
  by_cases h3 : 200 < t.length
  · simp [h1, h2, h3] at hq
  · simp [h1, h2, h3] at hq
    rw [fewAll_all, List.all_eq_true] at hq
    exact ⟨by omega, by omega, hq⟩
theorem case_len {n : Nat} (h : cntd 26 n = true) : n = 3 := by simp [cntd, isOp, opOf, ops] at h; omega
def evF (o c n g : Int) (t : List UInt8) (ks : List Ex) (row : List V) : Nat → St
  | 0 => { s := mkS [(1, .d (.sl (row.map V.c))), (2, .ptr 2 0 0), (4, .ptr 4 0 0), (8, .nils), (78, .d (.sl (ks.map Ex.c))), (79, .d (.int .i64 ks.length)), (80, .d (.int .i64 0))], b := mkB [(2, 2, .var [.d (.int .i64 o), .d (.int .i64 c), .d (.int .i64 n), .d (.str t), .d (.int .i64 g), .d (.sl (ks.map Ex.c))]), (4, 4, .var [.d (.int .i64 0), .d (.int .i64 0), .d (.str [])])] }
  | i + 1 => { s := mkS [(1, .d (.sl (row.map V.c))), (2, .ptr 2 0 0), (4, .ptr 4 0 0), (8, .ref 900 0 (i + 1) 3), (78, .d (.sl (ks.map Ex.c))), (79, .d (.int .i64 ks.length)), (80, .d (.int .i64 (i + 1 : Nat)))], b := mkB [(2, 2, .var [.d (.int .i64 o), .d (.int .i64 c), .d (.int .i64 n), .d (.str t), .d (.int .i64 g), .d (.sl (ks.map Ex.c))]), (4, 4, .var [.d (.int .i64 0), .d (.int .i64 0), .d (.str [])]), (900, 900, .arr 54 3 ((ks.take (i + 1)).map fun e => (evalV e row).c) false)] }

theorem eval_step (row : List V) (hrow : row.length ≤ 1000) (o c n g : Int) (t : List UInt8) (ks : List Ex) (hk : ks.length ≤ 12)
    (hrec : ∀ e ∈ ks, Cf Eo 86 [e.a, .d (.sl (row.map V.c))] [] (evalV e row).a []) :
    Cf Eo 86 [(Ex.mk o c n t g ks).a, .d (.sl (row.map V.c))] [] (evalV (.mk o c n t g ks) row).a [] := by
    have hkn := e_known o c n t g ks
    refine cf_intro mixo (fn := Tryz.f86) (by kernel_rfl) rfl (by kernel_rfl) (by decide) (by simp) ?_
    rw [Ex.a] at hkn
    simp [Ex.a, Ex.c, kidsC_map] at hkn ⊢
    (repeat' (first | contradiction | exact .of (by kernel_rfl) | refine And.intro ?_ ?_ | intro _ | (refine agrd_cases (fun h => ?_) (fun h => ?_) <;> (have h' := h; (try simp at h'); first | done | simp [h, h'] | simp))))
    refine acallT_plain hkn (by simp) ?_
    cases hcn : cntd o ks.length
    · rw [show evalV (.mk o c n t g ks) row = nulV from by simp [evalV, hcn]]
      simp [opA, nulV, V.a]
      (repeat' (first | contradiction | exact .of (by kernel_rfl) | refine And.intro ?_ ?_ | intro _ | (refine agrd_cases (fun h => ?_) (fun h => ?_) <;> (have h' := h; (try simp at h'); first | done | simp [h, h'] | simp))))
    by_cases h2 : o = 2
    · rw [show evalV (.mk o c n t g ks) row = ⟨1, n, []⟩ from by rw [h2] at hcn; simp [evalV, hcn, h2]]
      simp [opA, V.a, h2]
      (repeat' (first | contradiction | exact .of (by kernel_rfl) | refine And.intro ?_ ?_ | intro _ | (refine agrd_cases (fun h => ?_) (fun h => ?_) <;> (have h' := h; (try simp at h'); first | done | simp [h, h'] | simp))))
    by_cases h3 : o = 3
    · rw [show evalV (.mk o c n t g ks) row = ⟨2, n, []⟩ from by rw [h3] at hcn; simp [evalV, hcn, h3]]
      simp [opA, V.a, h3]
      (repeat' (first | contradiction | exact .of (by kernel_rfl) | refine And.intro ?_ ?_ | intro _ | (refine agrd_cases (fun h => ?_) (fun h => ?_) <;> (have h' := h; (try simp at h'); first | done | simp [h, h'] | simp))))
    by_cases h4 : o = 4
    · rw [show evalV (.mk o c n t g ks) row = ⟨3, 0, t⟩ from by rw [h4] at hcn; simp [evalV, hcn, h4]]
      simp [opA, V.a, h4]
      (repeat' (first | contradiction | exact .of (by kernel_rfl) | refine And.intro ?_ ?_ | intro _ | (refine agrd_cases (fun h => ?_) (fun h => ?_) <;> (have h' := h; (try simp at h'); first | done | simp [h, h'] | simp))))
    by_cases h5 : o = 5
    · by_cases hg : 0 ≤ g ∧ g < row.length
      · have hgr : row[g.toNat]? = some row[g.toNat] := List.getElem?_eq_getElem (by omega)
        rw [show evalV (.mk o c n t g ks) row = row[g.toNat] from by rw [h5] at hcn; simp [evalV, hcn, h5, hg, hgr]]
        simp [opA, V.a, h5, hg.1, hg.2, hgr, V.c]
        (repeat' (first | contradiction | exact .of (by kernel_rfl) | refine And.intro ?_ ?_ | intro _ | (refine agrd_cases (fun h => ?_) (fun h => ?_) <;> (have h' := h; (try simp at h'); first | done | simp [h, h', hg.1, hg.2, hgr] | simp [hg.1, hg.2, hgr]))))
      · rw [show evalV (.mk o c n t g ks) row = nulV from by rw [h5] at hcn; simp [evalV, hcn, h5, hg]]
        simp [opA, V.a, h5, nulV]
        (repeat' (first | contradiction | exact .of (by kernel_rfl) | refine And.intro ?_ ?_ | intro _ | (refine agrd_cases (fun h => ?_) (fun h => ?_) <;> (have h' := h; (try simp at h'); first | done | simp [h, h'] | simp))))
        all_goals (exfalso; omega)
    by_cases h26 : o = 26
    · subst h26
      have h3k := case_len hcn
      obtain ⟨a, b, d, rfl⟩ : ∃ a b d, ks = [a, b, d] := by
        match ks, h3k with
        | [a, b, d], _ => exact ⟨a, b, d, rfl⟩
      have ca := hrec a (by simp)
      have cb := hrec b (by simp)
      have cd := hrec d (by simp)
      have he : evalV (.mk 26 c n t g [a, b, d]) row = if (evalV a row).tr = 1 then evalV b row else evalV d row := by
        rw [evalV, if_pos hcn]
        simp [evalAll, at0, at1, at2]
      rw [he]
      simp [opA, Ex.clen, Ex.ctake]
      (repeat' (first | contradiction | exact .of (by kernel_rfl) | refine And.intro ?_ ?_ | intro _ | (refine agrd_cases (fun h => ?_) (fun h => ?_) <;> (have h' := h; (try simp at h'); first | done | simp [h, h'] | simp))))
      refine acallT_plain ca (by simp [Ex.a]) ?_
      simp [V.a]
      refine acallT_plain (up (v_truth (evalV a row))) (by simp [V.a]) ?_
      by_cases h1 : (evalV a row).tr = 1
      · simp [h1, Ex.clen, Ex.ctake]
        (repeat' (first | contradiction | exact .of (by kernel_rfl) | refine And.intro ?_ ?_ | intro _ | (refine agrd_cases (fun h => ?_) (fun h => ?_) <;> (have h' := h; (try simp at h'); first | done | simp [h, h'] | simp))))
        refine acallT_plain cb (by simp [Ex.a]) ?_
        simp [V.a]
        (repeat' (first | contradiction | exact .of (by kernel_rfl) | refine And.intro ?_ ?_ | intro _ | (refine agrd_cases (fun h => ?_) (fun h => ?_) <;> (have h' := h; (try simp at h'); first | done | simp [h, h'] | simp))))
        all_goals simp [h1]
      · simp [h1, Ex.clen, Ex.ctake]
        (repeat' (first | contradiction | exact .of (by kernel_rfl) | refine And.intro ?_ ?_ | intro _ | (refine agrd_cases (fun h => ?_) (fun h => ?_) <;> (have h' := h; (try simp at h'); first | done | simp [h, h'] | simp))))
        refine acallT_plain cd (by simp [Ex.a]) ?_
        simp [V.a]
        (repeat' (first | contradiction | exact .of (by kernel_rfl) | refine And.intro ?_ ?_ | intro _ | (refine agrd_cases (fun h => ?_) (fun h => ?_) <;> (have h' := h; (try simp at h'); first | done | simp [h, h'] | simp))))
        all_goals simp [h1]
    have he : evalV (.mk o c n t g ks) row = applyV o (evalAll ks row) := by
      rw [evalV, if_pos hcn, if_neg h2, if_neg h3, if_neg h4, if_neg h5, if_neg h26]
    rw [he]
    have hap := up (apply_all o (evalAll ks row) (by rw [evalAll_map, List.length_map]; exact hcn) (by rw [evalAll_map, List.length_map]; omega) h2 h3 h4 h5 h26)
    simp [opA, h2, h3, h4, h5, h26]
    (repeat' (first | contradiction | exact .of (by kernel_rfl) | refine And.intro ?_ ?_ | intro _ | (refine agrd_cases (fun h => ?_) (fun h => ?_) <;> (have h' := h; (try simp at h'); first | done | simp [h, h'] | simp))))
    refine aloopT mixo (by decide) (evF o c n g t ks row) (fun i : Nat => i ≤ ks.length) (fun i => ks.length - i) 0 (by simp) (sub_mk [(1, _), (2, _), (4, _), (8, _), (78, _), (79, _), (80, _)] [(2, 2, _), (4, 4, _)] ⟨by simp, by simp, by simp [renOf, Blk.live], by simp⟩ (by simp [renOf])) ?_
    intro i hi
    by_cases hlt : i < ks.length
    · have hgi : ks[i]? = some ks[i] := List.getElem?_eq_getElem hlt
      have c1 := Ex.clen ks[i]
      have k1 := Ex.ctake ks[i]
      have hr := hrec ks[i] (List.getElem_mem hlt)
      have htk : List.take (i + 1) (List.map (fun e => (evalV e row).c) ks) = List.take i (List.map (fun e => (evalV e row).c) ks) ++ [(evalV ks[i] row).c] := by
        rw [List.take_add_one, List.getElem?_map, hgi]; rfl
      simp only [V.c] at htk
      cases i with
      | zero =>
        have hlt2 : (0 : Int) < ks.length := by omega
        simp [evF, hlt, hlt2, hgi, c1, k1]
        (repeat' (first | contradiction | exact .of (by kernel_rfl) | refine And.intro ?_ ?_ | intro _ | (refine agrd_cases (fun h => ?_) (fun h => ?_) <;> (have h' := h; (try simp at h'); first | done | simp [h, h'] | simp))))
        refine acallT_plain hr (by simp [Ex.a]) ?_
        simp [V.a]
        (repeat' (first | contradiction | exact .of (by kernel_rfl) | refine And.intro ?_ ?_ | intro _ | (refine agrd_cases (fun h => ?_) (fun h => ?_) <;> (have h' := h; (try simp at h'); first | done | simp [h, h'] | simp))))
        refine ⟨1, hlt, ?_, ?_⟩
        · refine sub_mk [(1, _), (2, _), (4, _), (8, _), (78, _), (79, _), (80, _)] [(2, 2, _), (4, 4, _), (900, 89, _)] ⟨by simp, by simp, ?_, by simp⟩ ?_
          · simp only [Nat.zero_add, List.take_zero, List.nil_append] at htk
            simp [renOf, Blk.live, htk, V.c]
          · simp [renOf]
            exact wrap_in (by omega) (by omega)
        · simp; omega
      | succ i =>
        have hlt2 : ((i + 1 : Nat) : Int) < ks.length := by omega
        have hlt3 : (i : Int) + 1 < ks.length := by omega
        have hp : (0 : Int) ≤ (i : Int) + 1 := by omega
        have hmin : min (i + 1) ks.length = i + 1 := by omega
        have s1 : (i + 1 + 1) * 32 ≤ 140737488355328 := by omega
        have s2 : i ≤ 9223372036854775805 := by omega
        simp [evF, hlt, hlt2, hlt3, hp, hgi, c1, k1]
        (repeat' (first | contradiction | exact .of (by kernel_rfl) | refine And.intro ?_ ?_ | intro _ | (refine agrd_cases (fun h => ?_) (fun h => ?_) <;> (have h' := h; (try simp at h'); first | done | simp [h, h'] | simp))))
        refine acallT_plain hr (by simp [Ex.a]) ?_
        simp [V.a, hmin, s1, s2]
        (repeat' (first | contradiction | exact .of (by kernel_rfl) | refine And.intro ?_ ?_ | intro _ | (refine agrd_cases (fun h => ?_) (fun h => ?_) <;> (have h' := h; (try simp at h'); first | done | simp [h, h'] | simp))))
        refine ⟨i + 2, by omega, ?_, ?_⟩
        · refine sub_mk [(1, _), (2, _), (4, _), (8, _), (78, _), (79, _), (80, _)] [(2, 2, _), (4, 4, _), (900, 89, _)] ⟨by simp, by simp, ?_, by simp⟩ ?_
          · simp [renOf, Blk.live, htk, V.c]
          · simp [renOf]
            rw [wrap_in (by omega) (by omega)]
        · simp; omega
    · have hie : i = ks.length := by omega
      subst hie
      cases hkl : ks.length with
      | zero =>
        have : ks = [] := List.eq_nil_of_length_eq_zero hkl
        subst this
        simp [evF]
        (repeat' (first | contradiction | exact .of (by kernel_rfl) | refine And.intro ?_ ?_ | intro _ | (refine agrd_cases (fun h => ?_) (fun h => ?_) <;> (have h' := h; (try simp at h'); first | done | simp [h, h'] | simp))))
        refine acallT_plain hap (by simp [evalAll]) ?_
        simp [V.a]
        (repeat' (first | contradiction | exact .of (by kernel_rfl) | refine And.intro ?_ ?_ | intro _ | (refine agrd_cases (fun h => ?_) (fun h => ?_) <;> (have h' := h; (try simp at h'); first | done | simp [h, h'] | simp))))
      | succ i =>
        simp [evF, hkl]
        (repeat' (first | contradiction | exact .of (by kernel_rfl) | refine And.intro ?_ ?_ | intro _ | (refine agrd_cases (fun h => ?_) (fun h => ?_) <;> (have h' := h; (try simp at h'); first | done | simp [h, h'] | simp))))
        have htk : List.take (i + 1) (List.map (fun e => (evalV e row).c) ks) = List.map (fun e => (evalV e row).c) ks := List.take_of_length_le (by simp [hkl])
        have hle : i + 1 ≤ ks.length := by omega
        refine acallT_plain hap (by simp [evalAll_map, Function.comp_def, htk, hle]) ?_
        simp [V.a, htk, hle]
        (repeat' (first | contradiction | exact .of (by kernel_rfl) | refine And.intro ?_ ?_ | intro _ | (refine agrd_cases (fun h => ?_) (fun h => ?_) <;> (have h' := h; (try simp at h'); first | done | simp [h, h'] | simp))))
theorem eval_cf (row : List V) (hrow : row.length ≤ 1000) : ∀ (m : Nat) (e : Ex), SizeOf.sizeOf e < m → ∀ q : Nat, e.few q = true → Cf Eo 86 [e.a, .d (.sl (row.map V.c))] [] (evalV e row).a []
  | 0, _, h, _, _ => absurd h (by omega)
  | m + 1, .mk o c n t g ks, hm, q, hq => by
    obtain ⟨hk, ht, hfew⟩ := few_kids hq
    exact eval_step row hrow o c n g t ks hk fun e he =>
      eval_cf row hrow m e (by have := Ex.kid_lt (e := .mk o c n t g ks) (k := e) he; omega) (q + 1) (hfew e he)
end Go.Proofs.Tryz
