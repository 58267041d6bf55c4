/- Depths of terms. -/
import Derived.Test.YtlimkhfjidcelaaDoorSqs
set_option linter.all false
namespace Go.Proofs.Tryd
open Go.Ab

theorem most_step {l : List Int} {i : Nat} {x : Int} (h : l[i]? = some x) : (if most (l.take i) < x then x else most (l.take i)) = most (l.take (i + 1)) := by
  rw [most_take h]
  split <;> omega
theorem most_all {l : List Int} {i : Nat} (h : l.length ≤ i) : most (l.take i) = most l := by rw [List.take_of_length_le h]

theorem s_termDepth : ∀ (m : Nat) (x : Tm), SizeOf.sizeOf x < m → x.fits → Cf En 38 [x.a] [] (.d (.int .i64 x.dep)) []
  | 0, _, h, _ => absurd h (by omega)
  | m + 1, .mk o y n t q ks, hm, hfit => by
    refine cf_intro mix (fn := Tryd.f38) (by kernel_rfl) rfl (by kernel_rfl) (by decide) (by simp) ?_
    rw [Tm.fits] at hfit
    have hq := fun (x : Tm) (hx : x ∈ ks) => s_termDepth m x (by
      have := Tm.kid_lt (e := .mk o y n t q ks) (k := x) hx
      omega) (tmsFits_get ks hfit.2 x hx)
    have hl := hfit.1
    rw [Tm.dep, tmsDep_most]
    simp [Tm.a, Tm.c, tmsC_map]
    refine ⟨.of (by kernel_rfl), .of (by kernel_rfl), .of (by kernel_rfl), ?_⟩
    refine aloopT mix (by decide) (fun i : Nat => { s := mkS [(1, .ptr 1 0 0), (3, .d (.int .i64 (most ((ks.map Tm.dep).take i)))), (7, .d (.sl (ks.map Tm.c))), (8, .d (.int .i64 ks.length)), (9, .d (.int .i64 i))], b := mkB [(1, 1, .var (Tm.a (.mk o y n t q ks)).cells)] }) (fun i : Nat => i ≤ ks.length) (fun i => ks.length - i) 0 (by simp) (sub_mk _ _ ⟨by simp, by simp, by simp [renOf, Blk.live, Tm.a, Tm.c, tmsC_map], by simp⟩ (by simp [renOf, most])) ?_
    rintro i hi
    by_cases hlt : i < ks.length
    · have hlt' : (i : Int) < ks.length := by omega
      have hg : ks[i]? = some ks[i] := List.getElem?_eq_getElem hlt
      have hk := most_step (l := ks.map Tm.dep) (i := i) (x := ks[i].dep) (by rw [List.getElem?_map, hg]; rfl)
      have c1 := Tm.clen ks[i]
      have k1 := Tm.ctake ks[i]
      simp [Tm.a, Tm.c, tmsC_map, hlt, hlt', hg, c1, k1]
      refine ⟨.of (by kernel_rfl), .of (by kernel_rfl), ?_⟩
      refine acallT_plain (hq ks[i] (List.getElem_mem hlt)) (by simp [Tm.a]) ?_
      simp
      refine ⟨.of (by kernel_rfl), .of (by kernel_rfl), i + 1, hlt, ?_, ?_⟩
      · refine sub_mk _ [(1, 1, _)] ⟨by simp, by simp, by simp [renOf, Blk.live, Tm.a, Tm.c, tmsC_map], by simp⟩ ?_
        simp [renOf]
        exact ⟨hk, wrap_in (by omega) (by omega)⟩
      · simp; omega
    · have hlt' : ¬ (i : Int) < ks.length := by omega
      have hall := most_all (l := ks.map Tm.dep) (i := i) (by simp; omega)
      simp [Tm.a, Tm.c, tmsC_map, hlt, hlt', up1, hall]
      exact ⟨.of (by kernel_rfl), .of (by kernel_rfl)⟩

theorem r_termDepth : ∀ (m : Nat) (x : Tm), SizeOf.sizeOf x < m → x.fits → Cf En 41 [x.a] [] (.d (.int .i64 x.dep)) []
  | 0, _, h, _ => absurd h (by omega)
  | m + 1, .mk o y n t q ks, hm, hfit => by
    refine cf_intro mix (fn := Tryd.f41) (by kernel_rfl) rfl (by kernel_rfl) (by decide) (by simp) ?_
    rw [Tm.fits] at hfit
    have hq := fun (x : Tm) (hx : x ∈ ks) => r_termDepth m x (by
      have := Tm.kid_lt (e := .mk o y n t q ks) (k := x) hx
      omega) (tmsFits_get ks hfit.2 x hx)
    have hl := hfit.1
    rw [Tm.dep, tmsDep_most]
    simp [Tm.a, Tm.c, tmsC_map]
    refine ⟨.of (by kernel_rfl), .of (by kernel_rfl), .of (by kernel_rfl), ?_⟩
    refine aloopT mix (by decide) (fun i : Nat => { s := mkS [(1, .ptr 1 0 0), (3, .d (.int .i64 (most ((ks.map Tm.dep).take i)))), (4, .d (.int .i64 i))], b := mkB [(1, 1, .var (Tm.a (.mk o y n t q ks)).cells)] }) (fun i : Nat => i ≤ ks.length) (fun i => ks.length - i) 0 (by simp) (sub_mk _ _ ⟨by simp, by simp, by simp [renOf, Blk.live, Tm.a, Tm.c, tmsC_map], by simp⟩ (by simp [renOf, most])) ?_
    rintro i hi
    by_cases hlt : i < ks.length
    · have hlt' : (i : Int) < ks.length := by omega
      have hg : ks[i]? = some ks[i] := List.getElem?_eq_getElem hlt
      have hk := most_step (l := ks.map Tm.dep) (i := i) (x := ks[i].dep) (by rw [List.getElem?_map, hg]; rfl)
      have c1 := Tm.clen ks[i]
      have k1 := Tm.ctake ks[i]
      simp [Tm.a, Tm.c, tmsC_map, hlt, hlt', hg, c1, k1]
      refine ⟨.of (by kernel_rfl), ?_⟩
      refine acallT_plain (hq ks[i] (List.getElem_mem hlt)) (by simp [Tm.a]) ?_
      simp
      refine ⟨.of (by kernel_rfl), .of (by kernel_rfl), i + 1, hlt, ?_, ?_⟩
      · refine sub_mk _ [(1, 1, _)] ⟨by simp, by simp, by simp [renOf, Blk.live, Tm.a, Tm.c, tmsC_map], by simp⟩ ?_
        simp [renOf]
        exact ⟨hk, wrap_in (by omega) (by omega)⟩
      · simp; omega
    · have hlt' : ¬ (i : Int) < ks.length := by omega
      have hall := most_all (l := ks.map Tm.dep) (i := i) (by simp; omega)
      simp [Tm.a, Tm.c, tmsC_map, hlt, hlt', up1, hall]
      exact ⟨.of (by kernel_rfl), .of (by kernel_rfl)⟩
theorem r_deepest (l : List Tm) (hl : l.length ≤ 9223372036854775807) (hf : tmsFits l) : Cf En 84 [.d (.sl (l.map Tm.c))] [] (.d (.int .i64 (tmsDep l))) [] := by
  refine cf_intro mix (fn := Tryd.f84) (by kernel_rfl) rfl (by kernel_rfl) (by decide) (by simp) ?_
  rw [tmsDep_most]
  simp
  refine ⟨.of (by kernel_rfl), .of (by kernel_rfl), .of (by kernel_rfl), ?_⟩
  refine aloopT mix (by decide) (fun i : Nat => { s := mkS [(0, .d (.sl (l.map Tm.c))), (3, .d (.int .i64 (most ((l.map Tm.dep).take i)))), (4, .d (.int .i64 i))], b := mkB [] }) (fun i : Nat => i ≤ l.length) (fun i => l.length - i) 0 (by simp) (sub_mk _ [] .nil (by simp [most])) ?_
  rintro i hi
  by_cases hlt : i < l.length
  · have hlt' : (i : Int) < l.length := by omega
    have hg : l[i]? = some l[i] := List.getElem?_eq_getElem hlt
    have hk := most_step (l := l.map Tm.dep) (i := i) (x := l[i].dep) (by rw [List.getElem?_map, hg]; rfl)
    have c1 := Tm.clen l[i]
    have k1 := Tm.ctake l[i]
    simp [hlt, hlt', hg, c1, k1]
    refine ⟨.of (by kernel_rfl), ?_⟩
    refine acallT_plain (r_termDepth _ l[i] (Nat.lt_succ_self _) (tmsFits_get l hf _ (List.getElem_mem hlt))) (by simp [Tm.a]) ?_
    simp
    refine ⟨.of (by kernel_rfl), .of (by kernel_rfl), i + 1, hlt, ?_, ?_⟩
    · refine sub_mk _ [] .nil ?_
      simp
      exact ⟨hk, wrap_in (by omega) (by omega)⟩
    · simp; omega
  · have hlt' : ¬ (i : Int) < l.length := by omega
    have hall := most_all (l := l.map Tm.dep) (i := i) (by simp; omega)
    simp [hlt, hlt', hall]
    exact ⟨.of (by kernel_rfl), .of (by kernel_rfl)⟩
theorem r_depths (l : List Sm) (hl : l.length ≤ 9223372036854775807) (h : ∀ x ∈ l, Cf En 37 [x.a] [] (.d (.int .i64 x.dep)) []) : Cf En 83 [.d (.sl (l.map Sm.c))] [] (.d (.int .i64 (smsDep l))) [] := by
  refine cf_intro mix (fn := Tryd.f83) (by kernel_rfl) rfl (by kernel_rfl) (by decide) (by simp) ?_
  rw [smsDep_most]
  simp
  refine ⟨.of (by kernel_rfl), .of (by kernel_rfl), .of (by kernel_rfl), ?_⟩
  refine aloopT mix (by decide) (fun i : Nat => { s := mkS [(0, .d (.sl (l.map Sm.c))), (3, .d (.int .i64 (most ((l.map Sm.dep).take i)))), (4, .d (.int .i64 i))], b := mkB [] }) (fun i : Nat => i ≤ l.length) (fun i => l.length - i) 0 (by simp) (sub_mk _ [] .nil (by simp [most])) ?_
  rintro i hi
  by_cases hlt : i < l.length
  · have hlt' : (i : Int) < l.length := by omega
    have hg : l[i]? = some l[i] := List.getElem?_eq_getElem hlt
    have hk := most_step (l := l.map Sm.dep) (i := i) (x := l[i].dep) (by rw [List.getElem?_map, hg]; rfl)
    have c1 := Sm.clen l[i]
    have k1 := Sm.ctake l[i]
    simp [hlt, hlt', hg, c1, k1]
    refine ⟨.of (by kernel_rfl), ?_⟩
    refine acallT_plain (h l[i] (List.getElem_mem hlt)) (by simp [Sm.a]) ?_
    simp
    refine ⟨.of (by kernel_rfl), .of (by kernel_rfl), i + 1, hlt, ?_, ?_⟩
    · refine sub_mk _ [] .nil ?_
      simp
      exact ⟨hk, wrap_in (by omega) (by omega)⟩
    · simp; omega
  · have hlt' : ¬ (i : Int) < l.length := by omega
    have hall := most_all (l := l.map Sm.dep) (i := i) (by simp; omega)
    simp [hlt, hlt', hall]
    exact ⟨.of (by kernel_rfl), .of (by kernel_rfl)⟩
end Go.Proofs.Tryd
