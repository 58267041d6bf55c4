/- Expressions: Same. -/
import Derived.Test.YtnbbnkmaoaogeaaExp
set_option linter.all false
namespace Go.Proofs.Try
open Go.Ab

mutual
def Ex.eq : Ex → Ex → Bool
  | .mk o c n t g ks, .mk o' c' n' t' g' ks' => o == o' && (c == c' && (n == n' && (t == t' && (g == g' && eqAll ks ks'))))
def eqAll : List Ex → List Ex → Bool
  | [], [] => true
  | e :: es, f :: fs => e.eq f && eqAll es fs
  | [], _ :: _ => false
  | _ :: _, [] => false
end
theorem eqAll_len : ∀ (a b : List Ex), a.length ≠ b.length → eqAll a b = false
  | [], [], h => absurd rfl h
  | [], _ :: _, _ => by rw [eqAll]
  | _ :: _, [], _ => by rw [eqAll]
  | e :: es, f :: fs, h => by rw [eqAll, eqAll_len es fs (by simpa using h)]; simp
theorem eqAll_drop {a b : List Ex} {i : Nat} {x y : Ex} (h1 : a[i]? = some x) (h2 : b[i]? = some y) : eqAll (a.drop i) (b.drop i) = (x.eq y && eqAll (a.drop (i + 1)) (b.drop (i + 1))) := by
  obtain ⟨hi, rfl⟩ := List.getElem?_eq_some_iff.1 h1
  obtain ⟨hj, rfl⟩ := List.getElem?_eq_some_iff.1 h2
  rw [List.drop_eq_getElem_cons hi, List.drop_eq_getElem_cons hj, eqAll]
theorem eqAll_end {a b : List Ex} {i : Nat} (h1 : a.length ≤ i) (h2 : b.length ≤ i) : eqAll (a.drop i) (b.drop i) = true := by
  rw [List.drop_eq_nil_of_le h1, List.drop_eq_nil_of_le h2, eqAll]

theorem equal_func (a b : List Ex) (hn : a.length ≤ 9223372036854775807) (h : ∀ x ∈ a, ∀ y ∈ b, Cf En 8 [x.a, y.a] [] (.d (.bool (x.eq y))) []) :
    Cf En 27 [.d (.sl (a.map Ex.c)), .d (.sl (b.map Ex.c)), .clo 8 []] [] (.d (.bool (eqAll a b))) [] := by
  refine cf_intro mix (fn := Try.f27) (by kernel_rfl) rfl (by kernel_rfl) (by decide) (by simp) ?_
  by_cases hl : a.length = b.length
  · have hl' : (a.length : Int) = b.length := by omega
    generalize hres : eqAll a b = res
    simp [hl, hl']
    refine ⟨.of (by kernel_rfl), .of (by kernel_rfl), .of (by kernel_rfl), ?_⟩
    refine aloopT mix (by decide) (fun i : Nat => { s := mkS [(1, .d (.sl (b.map Ex.c))), (2, .clo 8 []), (15, .d (.sl (a.map Ex.c))), (16, .d (.int .i64 b.length)), (17, .d (.int .i64 i))], b := mkB [] }) (fun i : Nat => i ≤ b.length ∧ eqAll (a.drop i) (b.drop i) = res) (fun i => b.length - i) 0 (by simp [hres]) (sub_mk _ [] .nil (by simp)) ?_
    rintro i ⟨hi, ho⟩
    by_cases hlt : i < b.length
    · have hlt' : (i : Int) < b.length := by omega
      have hla : i < a.length := by omega
      have hg : a[i]? = some a[i] := List.getElem?_eq_getElem hla
      have hg2 : b[i]? = some b[i] := List.getElem?_eq_getElem hlt
      have hd := eqAll_drop hg hg2
      have c1 := Ex.clen a[i]
      have c2 := Ex.clen b[i]
      have k1 := Ex.ctake a[i]
      have k2 := Ex.ctake b[i]
      simp [hlt, hlt', hla, hg, hg2, c1, c2, k1, k2]
      refine ⟨.of (by kernel_rfl), .of (by kernel_rfl), .of (by kernel_rfl), ?_⟩
      refine acallT_plain (h a[i] (List.getElem_mem hla) b[i] (List.getElem_mem hlt)) (by simp [Ex.a]) ?_
      simp
      refine ⟨.of (by kernel_rfl), fun h => ⟨.of (by kernel_rfl), ?_⟩, fun h => ⟨.of (by kernel_rfl), i + 1, ⟨hlt, ?_⟩, ?_, ?_⟩⟩
      · rw [← ho, hd, h]; rfl
      · rw [← ho, hd, h]; rfl
      · refine sub_mk _ [] .nil ?_
        simp
        exact wrap_in (by omega) (by omega)
      · simp; omega
    · have hlt' : ¬ (i : Int) < b.length := by omega
      simp [hlt, hlt']
      refine ⟨.of (by kernel_rfl), .of (by kernel_rfl), ?_⟩
      rw [← ho, eqAll_end (by omega) (by omega)]
  · have hl' : ¬ (a.length : Int) = b.length := by omega
    rw [eqAll_len a b hl]
    simp [hl, hl']
    exact ⟨.of (by kernel_rfl), .of (by kernel_rfl), .of (by kernel_rfl)⟩

theorem e_same : ∀ (m : Nat) (x y : Ex), SizeOf.sizeOf x < m → x.fits → Cf En 8 [x.a, y.a] [] (.d (.bool (x.eq y))) []
  | 0, _, _, h, _ => absurd h (by omega)
  | m + 1, .mk o c n t g ks, .mk o' c' n' t' g' ks', hm, hfit => by
    refine cf_intro mix (fn := Try.f8) (by kernel_rfl) rfl (by kernel_rfl) (by decide) (by simp) ?_
    rw [Ex.fits] at hfit
    have hq := equal_func ks ks' (by omega) fun x hx y _ => e_same m x y (by
      have := Ex.kid_lt (e := .mk o c n t g ks) (k := x) hx
      omega) (fitsAll_get ks hfit.2 x hx)
    have he : (Ex.mk o c n t g ks).eq (.mk o' c' n' t' g' ks') = (o == o' && (c == c' && (n == n' && (t == t' && (g == g' && eqAll ks ks'))))) := by rw [Ex.eq]
    rw [he]
    by_cases h1 : o = o'
    · by_cases h2 : c = c'
      · by_cases h3 : n = n'
        · by_cases h4 : t = t'
          · by_cases h5 : g = g'
            · simp [Ex.a, Ex.c, kidsC_map, h1, h2, h3, h4, h5]
              refine ⟨.of (by kernel_rfl), acallT_plain hq (by simp) ?_⟩
              simp
              exact ⟨.of (by kernel_rfl), by simp [h1, h2, h3, h4, h5]⟩
            · have h5' : (g == g') = false := by simp [h5]
              simp [Ex.a, Ex.c, kidsC_map, h1, h2, h3, h4, h5, h5']
              exact ⟨.of (by kernel_rfl), .of (by kernel_rfl)⟩
          · have h4' : (t == t') = false := by simp [h4]
            simp [Ex.a, Ex.c, kidsC_map, h1, h2, h3, h4, h4']
            exact ⟨.of (by kernel_rfl), .of (by kernel_rfl)⟩
        · have h3' : (n == n') = false := by simp [h3]
          simp [Ex.a, Ex.c, kidsC_map, h1, h2, h3, h3']
          exact ⟨.of (by kernel_rfl), .of (by kernel_rfl)⟩
      · have h2' : (c == c') = false := by simp [h2]
        simp [Ex.a, Ex.c, kidsC_map, h1, h2, h2']
        exact ⟨.of (by kernel_rfl), .of (by kernel_rfl)⟩
    · have h1' : (o == o') = false := by simp [h1]
      simp [Ex.a, Ex.c, kidsC_map, h1, h1']
      exact ⟨.of (by kernel_rfl), .of (by kernel_rfl)⟩
end Go.Proofs.Try
