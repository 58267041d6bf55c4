/- Values: what the program's functions on them compute. -/
import Derived.Test.YtlimkhfjidcelaaGreatDoorVal0
set_option linter.all false
namespace Go.Proofs.Tryz
open Go.Ab

def V.same (v u : V) : Bool := v.k == u.k && (v.n == u.n && v.t == u.t)
def cmpI (a b : Int) : Int := if a < b then -1 else if b < a then 1 else 0
def cmpS (a b : List UInt8) : Int := if Op.bytesLess a b = true then -1 else if a = b then 0 else 1
def orOf : List Int → Int
  | [] => 0
  | x :: xs => if x ≠ 0 then x else orOf xs
def V.cmp (v u : V) : Int := orOf [cmpI v.k u.k, cmpI v.n u.n, cmpS v.t u.t]

theorem orOf_drop {l : List Int} {i : Nat} {n : Int} (h : l[i]? = some n) : orOf (l.drop i) = if n ≠ 0 then n else orOf (l.drop (i + 1)) := by
  obtain ⟨hi, rfl⟩ := List.getElem?_eq_some_iff.1 h
  rw [List.drop_eq_getElem_cons hi, orOf]

theorem isNaN_int (n : Int) : Cf En 149 [.d (.int .i64 n)] [] (.d (.bool false)) [] := by
  refine cf_intro mix (fn := Tryz.f149) (by kernel_rfl) rfl (by kernel_rfl) (by decide) (by simp) ?_
  simp
  exact ⟨.of (by kernel_rfl), .of (by kernel_rfl)⟩
theorem isNaN_int64 (n : Int) : Cf En 150 [.d (.int .i64 n)] [] (.d (.bool false)) [] := by
  refine cf_intro mix (fn := Tryz.f150) (by kernel_rfl) rfl (by kernel_rfl) (by decide) (by simp) ?_
  simp
  exact ⟨.of (by kernel_rfl), .of (by kernel_rfl)⟩
theorem isNaN_string (n : List UInt8) : Cf En 151 [.d (.str n)] [] (.d (.bool false)) [] := by
  refine cf_intro mix (fn := Tryz.f151) (by kernel_rfl) rfl (by kernel_rfl) (by decide) (by simp) ?_
  simp
  exact ⟨.of (by kernel_rfl), .of (by kernel_rfl)⟩

theorem cmp_int (a b : Int) : Cf En 118 [.d (.int .i64 a), .d (.int .i64 b)] [] (.d (.int .i64 (cmpI a b))) [] := by
  refine cf_intro mix (fn := Tryz.f118) (by kernel_rfl) rfl (by kernel_rfl) (by decide) (by simp) ?_
  simp
  refine ⟨.of (by kernel_rfl), acallT_plain (isNaN_int a) (by simp) ?_⟩
  simp
  refine ⟨.of (by kernel_rfl), acallT_plain (isNaN_int b) (by simp) ?_⟩
  simp
  repeat' (first | intro _ | refine And.intro ?_ ?_)
  all_goals first | exact .of (by kernel_rfl) | skip
  all_goals (unfold cmpI; grind)
theorem cmp_int64 (a b : Int) : Cf En 119 [.d (.int .i64 a), .d (.int .i64 b)] [] (.d (.int .i64 (cmpI a b))) [] := by
  refine cf_intro mix (fn := Tryz.f119) (by kernel_rfl) rfl (by kernel_rfl) (by decide) (by simp) ?_
  simp
  refine ⟨.of (by kernel_rfl), acallT_plain (isNaN_int64 a) (by simp) ?_⟩
  simp
  refine ⟨.of (by kernel_rfl), acallT_plain (isNaN_int64 b) (by simp) ?_⟩
  simp
  repeat' (first | intro _ | refine And.intro ?_ ?_)
  all_goals first | exact .of (by kernel_rfl) | skip
  all_goals (unfold cmpI; grind)
theorem cmp_string (a b : List UInt8) : Cf En 120 [.d (.str a), .d (.str b)] [] (.d (.int .i64 (cmpS a b))) [] := by
  refine cf_intro mix (fn := Tryz.f120) (by kernel_rfl) rfl (by kernel_rfl) (by decide) (by simp) ?_
  simp
  refine ⟨.of (by kernel_rfl), acallT_plain (isNaN_string a) (by simp) ?_⟩
  simp
  refine ⟨.of (by kernel_rfl), acallT_plain (isNaN_string b) (by simp) ?_⟩
  simp
  repeat' (first | intro _ | refine And.intro ?_ ?_)
  all_goals first | exact .of (by kernel_rfl) | skip
  all_goals (unfold cmpS; grind)

theorem or_int (l : List Int) (hl : l.length ≤ 1000000) : Cf En 117 [.d (.sl (l.map fun n => [.int .i64 n]))] [] (.d (.int .i64 (orOf l))) [] := by
  refine cf_intro mix (fn := Tryz.f117) (by kernel_rfl) rfl (by kernel_rfl) (by decide) (by simp) ?_
  simp
  refine ⟨.of (by kernel_rfl), .of (by kernel_rfl), .of (by kernel_rfl), ?_⟩
  refine aloopT mix (by decide) (fun i : Nat => { s := mkS [(3, .d (.int .i64 0)), (6, .d (.sl (l.map fun n => [.int .i64 n]))), (7, .d (.int .i64 l.length)), (8, .d (.int .i64 i))], b := mkB [] }) (fun i : Nat => i ≤ l.length ∧ orOf (l.drop i) = orOf l) (fun i => l.length - i) 0 (by simp) (sub_mk _ [] .nil (by simp)) ?_
  rintro i ⟨hi, ho⟩
  simp
  refine ⟨.of (by kernel_rfl), fun hlt => ?_, fun hle => ?_⟩
  · have hg : l[i]? = some l[i] := List.getElem?_eq_getElem hlt
    have hd := orOf_drop hg
    simp [hg]
    refine ⟨.of (by kernel_rfl), .of (by kernel_rfl), fun h => ?_, fun h => ?_⟩
    · exact ⟨.of (by kernel_rfl), by rw [← ho, hd]; simp [h]⟩
    · refine ⟨.of (by kernel_rfl), i + 1, ⟨hlt, ?_⟩, ?_, ?_⟩
      · rw [← ho, hd]; simp [h]
      · refine sub_mk _ [] .nil ?_
        simp
        exact wrap_in (by omega) (by omega)
      · simp; omega
  · refine ⟨.of (by kernel_rfl), ?_⟩
    have : i = l.length := by omega
    subst this
    simpa [orOf] using ho

theorem v_compare (v u : V) : Cf En 79 [v.a, u.a] [] (.d (.int .i64 (v.cmp u))) [] := by
  refine cf_intro mix (fn := Tryz.f79) (by kernel_rfl) rfl (by kernel_rfl) (by decide) (by simp) ?_
  simp [V.a]
  refine ⟨.of (by kernel_rfl), acallT_plain (cmp_int v.k u.k) (by simp) ?_⟩
  simp
  refine acallT_plain (cmp_int64 v.n u.n) (by simp) ?_
  simp
  refine acallT_plain (cmp_string v.t u.t) (by simp) ?_
  simp
  refine acallT_plain (or_int [cmpI v.k u.k, cmpI v.n u.n, cmpS v.t u.t] (by simp)) (by simp) ?_
  simp
  exact ⟨.of (by kernel_rfl), rfl⟩

theorem v_same (v u : V) : Cf En 159 [v.a, u.a] [] (.d (.bool (v.same u))) [] := by
  refine cf_intro mix (fn := Tryz.f159) (by kernel_rfl) rfl (by kernel_rfl) (by decide) (by simp) ?_
  simp [V.a]
  exact ⟨.of (by kernel_rfl), .of (by kernel_rfl), by simp [V.same]⟩

theorem r_compare (v u : V) : Cf En 77 [v.a, u.a] [] (.d (.int .i64 (v.cmp u))) [] := by
  refine cf_intro mix (fn := Tryz.f77) (by kernel_rfl) rfl (by kernel_rfl) (by decide) (by simp) ?_
  simp [V.a]
  repeat' (first | intro _ | refine And.intro ?_ ?_)
  all_goals first | exact .of (by kernel_rfl) | skip
  all_goals (simp only [V.cmp, orOf, cmpI, cmpS]; grind)

theorem r_same (v u : V) : Cf En 51 [v.a, u.a] [] (.d (.bool (v.cmp u == 0))) [] := by
  refine cf_intro mix (fn := Tryz.f51) (by kernel_rfl) rfl (by kernel_rfl) (by decide) (by simp) ?_
  simp [V.a]
  refine ⟨.of (by kernel_rfl), acallT_plain (r_compare v u) (by simp [V.a]) ?_⟩
  simp
  exact .of (by kernel_rfl)
end Go.Proofs.Tryz
