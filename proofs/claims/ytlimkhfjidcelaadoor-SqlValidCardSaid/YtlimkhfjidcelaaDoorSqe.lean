/- Terms and statements: slices.EqualFunc, and the program's Same. -/
import Derived.Test.YtlimkhfjidcelaaDoorStm
import Derived.Test.YtlimkhfjidcelaaDoorExc0
set_option linter.all false
namespace Go.Proofs.Tryd
open Go.Ab

theorem equal_T (F : FuncId) (a b : List Tm) (hn : a.length ≤ 9223372036854775807) (h : ∀ x ∈ a, ∀ y ∈ b, Cf En F [x.a, y.a] [] (.d (.bool (x.eq y))) []) :
    Cf En 45 [.d (.sl (a.map Tm.c)), .d (.sl (b.map Tm.c)), .clo F []] [] (.d (.bool (agree Tm.eq a b))) [] := by
  refine cf_intro mix (fn := Tryd.f45) (by kernel_rfl) rfl (by kernel_rfl) (by decide) (by simp) ?_
  by_cases hl : a.length = b.length
  · have hl' : (a.length : Int) = b.length := by omega
    generalize hres : agree Tm.eq a b = res
    simp [hl, hl']
    refine ⟨.of (by kernel_rfl), .of (by kernel_rfl), .of (by kernel_rfl), ?_⟩
    refine aloopT mix (by decide) (fun i : Nat => { s := mkS [(1, .d (.sl (b.map Tm.c))), (2, .clo F []), (15, .d (.sl (a.map Tm.c))), (16, .d (.int .i64 b.length)), (17, .d (.int .i64 i))], b := mkB [] }) (fun i : Nat => i ≤ b.length ∧ agree Tm.eq (a.drop i) (b.drop i) = res) (fun i => b.length - i) 0 (by simp [hres]) (sub_mk _ [] .nil (by simp)) ?_
    rintro i ⟨hi, ho⟩
    by_cases hlt : i < b.length
    · have hlt' : (i : Int) < b.length := by omega
      have hla : i < a.length := by omega
      have hg : a[i]? = some a[i] := List.getElem?_eq_getElem hla
      have hg2 : b[i]? = some b[i] := List.getElem?_eq_getElem hlt
      have hd := agree_drop (f := Tm.eq) hg hg2
      have c1 := Tm.clen a[i]
      have c2 := Tm.clen b[i]
      have k1 := Tm.ctake a[i]
      have k2 := Tm.ctake b[i]
      simp [hlt, hlt', hla, hg, hg2, c1, c2, k1, k2]
      refine ⟨.of (by kernel_rfl), .of (by kernel_rfl), .of (by kernel_rfl), ?_⟩
      refine acallT_plain (h a[i] (List.getElem_mem hla) b[i] (List.getElem_mem hlt)) (by simp [Tm.a]) ?_
      simp
      refine ⟨.of (by kernel_rfl), fun h => ⟨.of (by kernel_rfl), ?_⟩, fun h => ⟨.of (by kernel_rfl), i + 1, ⟨hlt, ?_⟩, ?_, ?_⟩⟩
      · rw [← ho, hd, h]; rfl
      · rw [← ho, hd, h]; rfl
      · refine sub_mk _ [] .nil ?_
        simp
        exact wrap_in (by omega) (by omega)
      · simp; omega
    · have hlt' : ¬ (i : Int) < b.length := by omega
      simp [hlt, hlt']
      refine ⟨.of (by kernel_rfl), .of (by kernel_rfl), ?_⟩
      rw [← ho, agree_end (by omega) (by omega)]
  · have hl' : ¬ (a.length : Int) = b.length := by omega
    rw [agree_len a b hl]
    simp [hl, hl']
    exact ⟨.of (by kernel_rfl), .of (by kernel_rfl), .of (by kernel_rfl)⟩

theorem equal_I (F : FuncId) (a b : List It) (hn : a.length ≤ 9223372036854775807) (h : ∀ x ∈ a, ∀ y ∈ b, Cf En F [x.a, y.a] [] (.d (.bool (x.eq y))) []) :
    Cf En 46 [.d (.sl (a.map It.c)), .d (.sl (b.map It.c)), .clo F []] [] (.d (.bool (agree It.eq a b))) [] := by
  refine cf_intro mix (fn := Tryd.f46) (by kernel_rfl) rfl (by kernel_rfl) (by decide) (by simp) ?_
  by_cases hl : a.length = b.length
  · have hl' : (a.length : Int) = b.length := by omega
    generalize hres : agree It.eq a b = res
    simp [hl, hl']
    refine ⟨.of (by kernel_rfl), .of (by kernel_rfl), .of (by kernel_rfl), ?_⟩
    refine aloopT mix (by decide) (fun i : Nat => { s := mkS [(1, .d (.sl (b.map It.c))), (2, .clo F []), (15, .d (.sl (a.map It.c))), (16, .d (.int .i64 b.length)), (17, .d (.int .i64 i))], b := mkB [] }) (fun i : Nat => i ≤ b.length ∧ agree It.eq (a.drop i) (b.drop i) = res) (fun i => b.length - i) 0 (by simp [hres]) (sub_mk _ [] .nil (by simp)) ?_
    rintro i ⟨hi, ho⟩
    by_cases hlt : i < b.length
    · have hlt' : (i : Int) < b.length := by omega
      have hla : i < a.length := by omega
      have hg : a[i]? = some a[i] := List.getElem?_eq_getElem hla
      have hg2 : b[i]? = some b[i] := List.getElem?_eq_getElem hlt
      have hd := agree_drop (f := It.eq) hg hg2
      have c1 := It.clen a[i]
      have c2 := It.clen b[i]
      have k1 := It.ctake a[i]
      have k2 := It.ctake b[i]
      simp [hlt, hlt', hla, hg, hg2, c1, c2, k1, k2]
      refine ⟨.of (by kernel_rfl), .of (by kernel_rfl), .of (by kernel_rfl), ?_⟩
      refine acallT_plain (h a[i] (List.getElem_mem hla) b[i] (List.getElem_mem hlt)) (by simp [It.a]) ?_
      simp
      refine ⟨.of (by kernel_rfl), fun h => ⟨.of (by kernel_rfl), ?_⟩, fun h => ⟨.of (by kernel_rfl), i + 1, ⟨hlt, ?_⟩, ?_, ?_⟩⟩
      · rw [← ho, hd, h]; rfl
      · rw [← ho, hd, h]; rfl
      · refine sub_mk _ [] .nil ?_
        simp
        exact wrap_in (by omega) (by omega)
      · simp; omega
    · have hlt' : ¬ (i : Int) < b.length := by omega
      simp [hlt, hlt']
      refine ⟨.of (by kernel_rfl), .of (by kernel_rfl), ?_⟩
      rw [← ho, agree_end (by omega) (by omega)]
  · have hl' : ¬ (a.length : Int) = b.length := by omega
    rw [agree_len a b hl]
    simp [hl, hl']
    exact ⟨.of (by kernel_rfl), .of (by kernel_rfl), .of (by kernel_rfl)⟩

theorem equal_J (F : FuncId) (a b : List Jo) (hn : a.length ≤ 9223372036854775807) (h : ∀ x ∈ a, ∀ y ∈ b, Cf En F [x.a, y.a] [] (.d (.bool (x.eq y))) []) :
    Cf En 47 [.d (.sl (a.map Jo.c)), .d (.sl (b.map Jo.c)), .clo F []] [] (.d (.bool (agree Jo.eq a b))) [] := by
  refine cf_intro mix (fn := Tryd.f47) (by kernel_rfl) rfl (by kernel_rfl) (by decide) (by simp) ?_
  by_cases hl : a.length = b.length
  · have hl' : (a.length : Int) = b.length := by omega
    generalize hres : agree Jo.eq a b = res
    simp [hl, hl']
    refine ⟨.of (by kernel_rfl), .of (by kernel_rfl), .of (by kernel_rfl), ?_⟩
    refine aloopT mix (by decide) (fun i : Nat => { s := mkS [(1, .d (.sl (b.map Jo.c))), (2, .clo F []), (15, .d (.sl (a.map Jo.c))), (16, .d (.int .i64 b.length)), (17, .d (.int .i64 i))], b := mkB [] }) (fun i : Nat => i ≤ b.length ∧ agree Jo.eq (a.drop i) (b.drop i) = res) (fun i => b.length - i) 0 (by simp [hres]) (sub_mk _ [] .nil (by simp)) ?_
    rintro i ⟨hi, ho⟩
    by_cases hlt : i < b.length
    · have hlt' : (i : Int) < b.length := by omega
      have hla : i < a.length := by omega
      have hg : a[i]? = some a[i] := List.getElem?_eq_getElem hla
      have hg2 : b[i]? = some b[i] := List.getElem?_eq_getElem hlt
      have hd := agree_drop (f := Jo.eq) hg hg2
      have c1 := Jo.clen a[i]
      have c2 := Jo.clen b[i]
      have k1 := Jo.ctake a[i]
      have k2 := Jo.ctake b[i]
      simp [hlt, hlt', hla, hg, hg2, c1, c2, k1, k2]
      refine ⟨.of (by kernel_rfl), .of (by kernel_rfl), .of (by kernel_rfl), ?_⟩
      refine acallT_plain (h a[i] (List.getElem_mem hla) b[i] (List.getElem_mem hlt)) (by simp [Jo.a]) ?_
      simp
      refine ⟨.of (by kernel_rfl), fun h => ⟨.of (by kernel_rfl), ?_⟩, fun h => ⟨.of (by kernel_rfl), i + 1, ⟨hlt, ?_⟩, ?_, ?_⟩⟩
      · rw [← ho, hd, h]; rfl
      · rw [← ho, hd, h]; rfl
      · refine sub_mk _ [] .nil ?_
        simp
        exact wrap_in (by omega) (by omega)
      · simp; omega
    · have hlt' : ¬ (i : Int) < b.length := by omega
      simp [hlt, hlt']
      refine ⟨.of (by kernel_rfl), .of (by kernel_rfl), ?_⟩
      rw [← ho, agree_end (by omega) (by omega)]
  · have hl' : ¬ (a.length : Int) = b.length := by omega
    rw [agree_len a b hl]
    simp [hl, hl']
    exact ⟨.of (by kernel_rfl), .of (by kernel_rfl), .of (by kernel_rfl)⟩

theorem equal_S (F : FuncId) (a b : List Sm) (hn : a.length ≤ 9223372036854775807) (h : ∀ x ∈ a, ∀ y ∈ b, Cf En F [x.a, y.a] [] (.d (.bool (x.eq y))) []) :
    Cf En 48 [.d (.sl (a.map Sm.c)), .d (.sl (b.map Sm.c)), .clo F []] [] (.d (.bool (agree Sm.eq a b))) [] := by
  refine cf_intro mix (fn := Tryd.f48) (by kernel_rfl) rfl (by kernel_rfl) (by decide) (by simp) ?_
  by_cases hl : a.length = b.length
  · have hl' : (a.length : Int) = b.length := by omega
    generalize hres : agree Sm.eq a b = res
    simp [hl, hl']
    refine ⟨.of (by kernel_rfl), .of (by kernel_rfl), .of (by kernel_rfl), ?_⟩
    refine aloopT mix (by decide) (fun i : Nat => { s := mkS [(1, .d (.sl (b.map Sm.c))), (2, .clo F []), (15, .d (.sl (a.map Sm.c))), (16, .d (.int .i64 b.length)), (17, .d (.int .i64 i))], b := mkB [] }) (fun i : Nat => i ≤ b.length ∧ agree Sm.eq (a.drop i) (b.drop i) = res) (fun i => b.length - i) 0 (by simp [hres]) (sub_mk _ [] .nil (by simp)) ?_
    rintro i ⟨hi, ho⟩
    by_cases hlt : i < b.length
    · have hlt' : (i : Int) < b.length := by omega
      have hla : i < a.length := by omega
      have hg : a[i]? = some a[i] := List.getElem?_eq_getElem hla
      have hg2 : b[i]? = some b[i] := List.getElem?_eq_getElem hlt
      have hd := agree_drop (f := Sm.eq) hg hg2
      have c1 := Sm.clen a[i]
      have c2 := Sm.clen b[i]
      have k1 := Sm.ctake a[i]
      have k2 := Sm.ctake b[i]
      simp [hlt, hlt', hla, hg, hg2, c1, c2, k1, k2]
      refine ⟨.of (by kernel_rfl), .of (by kernel_rfl), .of (by kernel_rfl), ?_⟩
      refine acallT_plain (h a[i] (List.getElem_mem hla) b[i] (List.getElem_mem hlt)) (by simp [Sm.a]) ?_
      simp
      refine ⟨.of (by kernel_rfl), fun h => ⟨.of (by kernel_rfl), ?_⟩, fun h => ⟨.of (by kernel_rfl), i + 1, ⟨hlt, ?_⟩, ?_, ?_⟩⟩
      · rw [← ho, hd, h]; rfl
      · rw [← ho, hd, h]; rfl
      · refine sub_mk _ [] .nil ?_
        simp
        exact wrap_in (by omega) (by omega)
      · simp; omega
    · have hlt' : ¬ (i : Int) < b.length := by omega
      simp [hlt, hlt']
      refine ⟨.of (by kernel_rfl), .of (by kernel_rfl), ?_⟩
      rw [← ho, agree_end (by omega) (by omega)]
  · have hl' : ¬ (a.length : Int) = b.length := by omega
    rw [agree_len a b hl]
    simp [hl, hl']
    exact ⟨.of (by kernel_rfl), .of (by kernel_rfl), .of (by kernel_rfl)⟩
end Go.Proofs.Tryd
