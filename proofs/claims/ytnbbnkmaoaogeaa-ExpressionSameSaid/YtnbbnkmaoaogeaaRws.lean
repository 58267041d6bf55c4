/- ValueRows. -/
import Derived.Test.YtnbbnkmaoaogeaaCmps
set_option linter.all false
namespace Go.Proofs.Try
open Go.Ab

def cmpRows : List V → List V → Int
  | [], [] => 0
  | [], _ :: _ => -1
  | _ :: _, [] => 1
  | v :: a, u :: b => if v.cmp u ≠ 0 then v.cmp u else cmpRows a b
def rowD (l : List V) : AV := .d (.sl (l.map V.c))

theorem cmpRows_step {a b : List V} {i : Nat} {v u : V} (h1 : a[i]? = some v) (h2 : b[i]? = some u) : cmpRows (a.drop i) (b.drop i) = if v.cmp u ≠ 0 then v.cmp u else cmpRows (a.drop (i + 1)) (b.drop (i + 1)) := by
  obtain ⟨hi, rfl⟩ := List.getElem?_eq_some_iff.1 h1
  obtain ⟨hj, rfl⟩ := List.getElem?_eq_some_iff.1 h2
  rw [List.drop_eq_getElem_cons hi, List.drop_eq_getElem_cons hj, cmpRows]
theorem cmpRows_end1 {a b : List V} {i : Nat} (h1 : i < a.length) (h2 : b.length ≤ i) : cmpRows (a.drop i) (b.drop i) = 1 := by
  rw [List.drop_eq_getElem_cons h1, List.drop_eq_nil_of_le h2, cmpRows]
theorem cmpRows_end2 {a b : List V} {i : Nat} (h1 : a.length ≤ i) (h2 : i < b.length) : cmpRows (a.drop i) (b.drop i) = -1 := by
  rw [List.drop_eq_getElem_cons h2, List.drop_eq_nil_of_le h1, cmpRows]
theorem cmpRows_end3 {a b : List V} {i : Nat} (h1 : a.length ≤ i) (h2 : b.length ≤ i) : cmpRows (a.drop i) (b.drop i) = 0 := by
  rw [List.drop_eq_nil_of_le h2, List.drop_eq_nil_of_le h1, cmpRows]
theorem cmpRows_app : ∀ a b : List V, cmpRows a (a ++ b) = (if 0 < b.length then -1 else 0) ∧ cmpRows (a ++ b) a = (if 0 < b.length then 1 else 0)
  | [], [] => by simp [cmpRows]
  | [], _ :: _ => by simp [cmpRows]
  | v :: a, b => by simp [cmpRows, V.cmp_self, cmpRows_app a b]

theorem compare_func (a b : List V) (ha : a.length ≤ 1000000) (hb : b.length ≤ 1000000) : Cf En 28 [rowD a, rowD b, .clo 17 []] [] (.d (.int .i64 (cmpRows a b))) [] := by
  refine cf_intro mix (fn := Try.f28) (by kernel_rfl) rfl (by kernel_rfl) (by decide) (by simp) ?_
  simp [rowD]
  refine ⟨.of (by kernel_rfl), .of (by kernel_rfl), ?_⟩
  refine aloopT mix (by decide) (fun i : Nat => { s := mkS [(0, rowD a), (1, rowD b), (2, .clo 17 []), (11, rowD a), (12, .d (.int .i64 a.length)), (13, .d (.int .i64 i))], b := mkB [] }) (fun i : Nat => i ≤ a.length ∧ i ≤ b.length ∧ cmpRows (a.drop i) (b.drop i) = cmpRows a b) (fun i => a.length - i) 0 (by simp) (sub_mk _ [] .nil (by simp [rowD])) ?_
  rintro i ⟨hi, hj, ho⟩
  by_cases hlt : i < a.length
  · have hlt' : (i : Int) < a.length := by omega
    have hg : a[i]? = some a[i] := List.getElem?_eq_getElem hlt
    by_cases hjl : i < b.length
    · have hjl' : ¬ (b.length : Int) ≤ i := by omega
      have hjl2 : ¬ b.length ≤ i := by omega
      have hg2 : b[i]? = some b[i] := List.getElem?_eq_getElem hjl
      have hst := cmpRows_step hg hg2
      simp [rowD, hlt, hlt', hjl', hjl, hg, hg2, V.c]
      refine ⟨.of (by kernel_rfl), .of (by kernel_rfl), .of (by kernel_rfl), .of (by kernel_rfl), ?_⟩
      refine acallT_plain (v_compare a[i] b[i]) (by simp [V.a]) ?_
      simp
      refine ⟨.of (by kernel_rfl), .of (by kernel_rfl), fun h => ⟨.of (by kernel_rfl), ?_⟩, fun h => ⟨.of (by kernel_rfl), i + 1, ⟨hlt, hjl, ?_⟩, ?_, ?_⟩⟩
      · rw [← ho, hst]; simp [h]
      · rw [← ho, hst]; simp [h]
      · refine sub_mk _ [] .nil ?_
        simp [rowD]
        exact wrap_in (by omega) (by omega)
      · simp; omega
    · have hjl' : (b.length : Int) ≤ i := by omega
      have hjl2 : b.length ≤ i := by omega
      simp [rowD, hlt, hlt', hjl', hjl2, hg, V.c]
      refine ⟨.of (by kernel_rfl), .of (by kernel_rfl), .of (by kernel_rfl), .of (by kernel_rfl), ?_⟩
      rw [← ho, cmpRows_end1 hlt hjl2]
  · have hlt' : ¬ (i : Int) < a.length := by omega
    simp [rowD, hlt, hlt']
    refine ⟨.of (by kernel_rfl), .of (by kernel_rfl), fun h => ⟨.of (by kernel_rfl), ?_⟩, fun h => ⟨.of (by kernel_rfl), ?_⟩⟩
    · rw [← ho, cmpRows_end2 (by omega) (by omega)]
    · rw [← ho, cmpRows_end3 (by omega) (by omega)]

theorem v_rows (a b : List V) (ha : a.length ≤ 1000000) (hb : b.length ≤ 1000000) : Cf En 13 [rowD a, rowD b] [] (.d (.int .i64 (cmpRows a b))) [] := by
  refine cf_intro mix (fn := Try.f13) (by kernel_rfl) rfl (by kernel_rfl) (by decide) (by simp) ?_
  simp
  refine ⟨.of (by kernel_rfl), acallT_plain (compare_func a b ha hb) (by simp [rowD]) ?_⟩
  simp
  exact .of (by kernel_rfl)

theorem r_rows (a b : List V) (ha : a.length ≤ 1000000) (hb : b.length ≤ 1000000) : Cf En 14 [rowD a, rowD b] [] (.d (.int .i64 (cmpRows a b))) [] := by
  refine cf_intro mix (fn := Try.f14) (by kernel_rfl) rfl (by kernel_rfl) (by decide) (by simp) ?_
  simp
  refine ⟨.of (by kernel_rfl), .of (by kernel_rfl), ?_⟩
  refine aloopT mix (by decide) (fun i : Nat => { s := mkS [(0, rowD a), (1, rowD b), (5, .d (.int .i64 i))], b := mkB [] }) (fun i : Nat => i ≤ a.length ∧ i ≤ b.length ∧ cmpRows (a.drop i) (b.drop i) = cmpRows a b) (fun i => a.length - i) 0 (by simp) (sub_mk _ [] .nil (by simp [rowD])) ?_
  rintro i ⟨hi, hj, ho⟩
  by_cases hlt : i < a.length
  · have hlt' : (i : Int) < a.length := by omega
    have hg : a[i]? = some a[i] := List.getElem?_eq_getElem hlt
    by_cases hjl : i < b.length
    · have hjl' : (i : Int) < b.length := by omega
      have hg2 : b[i]? = some b[i] := List.getElem?_eq_getElem hjl
      have hst := cmpRows_step hg hg2
      simp [rowD, hlt, hlt', hjl', hjl, hg, hg2, V.c]
      refine ⟨.of (by kernel_rfl), ?_⟩
      refine acallT_plain (r_compare a[i] b[i]) (by simp [V.a]) ?_
      simp
      refine ⟨.of (by kernel_rfl), .of (by kernel_rfl), fun h => ⟨.of (by kernel_rfl), ?_⟩, fun h => ⟨.of (by kernel_rfl), i + 1, ⟨hlt, hjl, ?_⟩, ?_, ?_⟩⟩
      · rw [← ho, hst]; simp [h]
      · rw [← ho, hst]; simp [h]
      · refine sub_mk _ [] .nil ?_
        simp [rowD]
        exact wrap_in (by omega) (by omega)
      · simp; omega
    · have hjl' : ¬ (i : Int) < b.length := by omega
      have h1 : ¬ (a.length : Int) < b.length := by omega
      have h2 : (b.length : Int) < a.length := by omega
      have h3 : ¬ a.length < b.length := by omega
      have h4 : b.length < a.length := by omega
      simp [rowD, hlt, hlt', hjl', hjl, h1, h2, h3, h4]
      refine ⟨.of (by kernel_rfl), .of (by kernel_rfl), .of (by kernel_rfl), .of (by kernel_rfl), ?_⟩
      rw [← ho, cmpRows_end1 hlt (by omega)]
  · have hlt' : ¬ (i : Int) < a.length := by omega
    simp [rowD, hlt, hlt']
    refine ⟨.of (by kernel_rfl), .of (by kernel_rfl), fun h => ⟨.of (by kernel_rfl), ?_⟩, fun h => ?_⟩
    · rw [← ho, cmpRows_end2 (by omega) (by omega)]
    · have h4 : ¬ b.length < a.length := by omega
      refine ⟨.of (by kernel_rfl), fun h5 => absurd h5 h4, fun _ => ⟨.of (by kernel_rfl), ?_⟩⟩
      rw [← ho, cmpRows_end3 (by omega) (by omega)]

theorem value_rows (a b : List V) : Cf En 4 [rowD a, rowD b] [] (.d (.bool true)) [] := by
  refine cf_intro mix (fn := Try.f4) (by kernel_rfl) rfl (by kernel_rfl) (by decide) (by simp) ?_
  by_cases h1 : 50 < a.length
  · have h1' : (50 : Int) < a.length := by omega
    simp [rowD, h1, h1']
    exact ⟨.of (by kernel_rfl), .of (by kernel_rfl), .of (by kernel_rfl)⟩
  · have h1' : ¬ (50 : Int) < a.length := by omega
    by_cases h2 : 50 < b.length
    · have h2' : (50 : Int) < b.length := by omega
      simp [rowD, h1, h1', h2, h2']
      exact ⟨.of (by kernel_rfl), .of (by kernel_rfl), .of (by kernel_rfl)⟩
    · have h2' : ¬ (50 : Int) < b.length := by omega
      have s1 : a.length * 32 ≤ 140737488355328 := by omega
      have s2 : (a.length + b.length) * 32 ≤ 140737488355328 := by omega
      have s3 : a.length ≤ 9223372036854775807 := by omega
      have s4 : a.length + b.length ≤ 9223372036854775807 := by omega
      have happ := cmpRows_app a b
      have htk : List.take (a.length + b.length) (List.map V.c a ++ List.map V.c b) = List.map V.c a ++ List.map V.c b := List.take_of_length_le (by simp)
      by_cases h3 : 0 < b.length
      · have h3' : (0 : Int) < b.length := by omega
        rw [if_pos h3, if_pos h3] at happ
        have hw : IntKind.i64.wrap 1 = 1 := wrap_in (by omega) (by omega)
        simp [rowD, h1, h1', h2, h2', V.c, s1, s2, s3, s4, h3, h3']
        repeat' (first | exact .of (by kernel_rfl) | refine And.intro ?_ ?_)
        refine acallT_plain (v_rows a b (by omega) (by omega)) (by simp [rowD, V.c]) ?_
        simp
        refine acallT_plain (r_rows a b (by omega) (by omega)) (by simp [rowD, V.c]) ?_
        simp
        refine acallT_plain (v_rows a (a ++ b) (by omega) (by simp; omega)) (by simp [rowD, V.c, htk]) ?_
        simp [happ]
        refine acallT_plain (v_rows (a ++ b) a (by simp; omega) (by omega)) (by simp [rowD, V.c, htk]) ?_
        simp [happ, hw]
        exact .of (by kernel_rfl)
      · have h3' : ¬ (0 : Int) < b.length := by omega
        rw [if_neg h3, if_neg h3] at happ
        have hw : IntKind.i64.wrap 0 = 0 := wrap_in (by omega) (by omega)
        simp [rowD, h1, h1', h2, h2', V.c, s1, s2, s3, s4, h3, h3']
        repeat' (first | exact .of (by kernel_rfl) | refine And.intro ?_ ?_)
        refine acallT_plain (v_rows a b (by omega) (by omega)) (by simp [rowD, V.c]) ?_
        simp
        refine acallT_plain (r_rows a b (by omega) (by omega)) (by simp [rowD, V.c]) ?_
        simp
        refine acallT_plain (v_rows a (a ++ b) (by omega) (by simp; omega)) (by simp [rowD, V.c, htk]) ?_
        simp [happ]
        refine acallT_plain (v_rows (a ++ b) a (by simp; omega) (by omega)) (by simp [rowD, V.c, htk]) ?_
        simp [happ, hw]
        exact .of (by kernel_rfl)
end Go.Proofs.Try
