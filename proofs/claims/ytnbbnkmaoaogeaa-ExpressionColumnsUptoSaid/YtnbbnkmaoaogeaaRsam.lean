/- Expressions: the reference's Same. -/
import Derived.Test.YtnbbnkmaoaogeaaSam
set_option linter.all false
namespace Go.Proofs.Try
open Go.Ab

theorem re_same : ∀ (m : Nat) (x y : Ex), SizeOf.sizeOf x < m → x.fits → Cf En 9 [x.a, y.a] [] (.d (.bool (x.eq y))) []
  | 0, _, _, h, _ => absurd h (by omega)
  | m + 1, .mk o c n t g ks, .mk o' c' n' t' g' ks', hm, hfit => by
    refine cf_intro mix (fn := Try.f9) (by kernel_rfl) rfl (by kernel_rfl) (by decide) (by simp) ?_
    rw [Ex.fits] at hfit
    have he : (Ex.mk o c n t g ks).eq (.mk o' c' n' t' g' ks') = (o == o' && (c == c' && (n == n' && (t == t' && (g == g' && eqAll ks ks'))))) := by rw [Ex.eq]
    rw [he]
    by_cases h1 : o = o'
    · by_cases h2 : c = c'
      · by_cases h3 : n = n'
        · by_cases h4 : t = t'
          · by_cases h5 : g = g'
            · by_cases h6 : ks.length = ks'.length
              · have h6' : (ks.length : Int) = ks'.length := by omega
                subst h1 h2 h3 h4 h5
                have hr : (o == o && (c == c && (n == n && (t == t && (g == g && eqAll ks ks'))))) = eqAll ks ks' := by simp
                rw [hr]
                generalize hres : eqAll ks ks' = res
                simp [Ex.a, Ex.c, kidsC_map, h6, h6']
                refine ⟨.of (by kernel_rfl), .of (by kernel_rfl), .of (by kernel_rfl), ?_⟩
                refine aloopT mix (by decide) (fun i : Nat => { s := mkS [(2, .ptr 2 0 0), (3, .ptr 3 0 0), (5, .d (.int .i64 i))], b := mkB [(2, 2, .var (Ex.a (.mk o c n t g ks)).cells), (3, 3, .var (Ex.a (.mk o c n t g ks')).cells)] }) (fun i : Nat => i ≤ ks'.length ∧ eqAll (ks.drop i) (ks'.drop i) = res) (fun i => ks'.length - i) 0 (by simp [hres]) (sub_mk _ _ ⟨by simp, by simp, by simp [renOf, Blk.live, Ex.a, Ex.c, kidsC_map], by simp⟩ (by simp [renOf])) ?_
                rintro i ⟨hi, ho⟩
                by_cases hlt : i < ks'.length
                · have hlt' : (i : Int) < ks'.length := by omega
                  have hla : i < ks.length := by omega
                  have hg : ks[i]? = some ks[i] := List.getElem?_eq_getElem hla
                  have hg2 : ks'[i]? = some ks'[i] := List.getElem?_eq_getElem hlt
                  have hd := eqAll_drop hg hg2
                  have c1 := Ex.clen ks[i]
                  have c2 := Ex.clen ks'[i]
                  have k1 := Ex.ctake ks[i]
                  have k2 := Ex.ctake ks'[i]
                  have hkid : SizeOf.sizeOf ks[i] < m := by
                    have := Ex.kid_lt (e := .mk o c n t g ks) (k := ks[i]) (List.getElem_mem hla)
                    omega
                  simp [Ex.a, Ex.c, kidsC_map, h6, hlt, hlt', hla, hg, hg2, c1, c2, k1, k2]
                  refine ⟨.of (by kernel_rfl), acallT_plain (re_same m ks[i] ks'[i] hkid (fitsAll_get ks hfit.2 _ (List.getElem_mem hla))) (by simp [Ex.a]) ?_⟩
                  simp
                  refine ⟨.of (by kernel_rfl), fun h => ⟨.of (by kernel_rfl), ?_⟩, fun h => ⟨.of (by kernel_rfl), i + 1, ⟨hlt, ?_⟩, ?_, ?_⟩⟩
                  · rw [← ho, hd, h]; rfl
                  · rw [← ho, hd, h]; rfl
                  · refine sub_mk _ [(2, 2, _), (3, 3, _)] ⟨by simp, by simp, by simp [renOf, Blk.live, Ex.a, Ex.c, kidsC_map], by simp⟩ ?_
                    simp [renOf]
                    exact wrap_in (by omega) (by omega)
                  · simp; omega
                · have hlt' : ¬ (i : Int) < ks'.length := by omega
                  simp [Ex.a, Ex.c, kidsC_map, h6, hlt, hlt']
                  refine ⟨.of (by kernel_rfl), .of (by kernel_rfl), ?_⟩
                  rw [← ho, eqAll_end (by omega) (by omega)]
              · have h6' : ¬ (ks.length : Int) = ks'.length := by omega
                rw [eqAll_len ks ks' h6]
                simp [Ex.a, Ex.c, kidsC_map, h1, h2, h3, h4, h5, h6, h6']
                exact ⟨.of (by kernel_rfl), .of (by kernel_rfl), .of (by kernel_rfl)⟩
            · have h5' : (g == g') = false := by simp [h5]
              have h5n : (g != g') = true := by simp [h5]
              simp [Ex.a, Ex.c, kidsC_map, h1, h2, h3, h4, h5, h5', h5n]
              exact ⟨.of (by kernel_rfl), .of (by kernel_rfl), .of (by kernel_rfl)⟩
          · have h4' : (t == t') = false := by simp [h4]
            have h4n : (!(t == t')) = true := by simp [h4]
            simp [Ex.a, Ex.c, kidsC_map, h1, h2, h3, h4, h4', h4n]
            exact ⟨.of (by kernel_rfl), .of (by kernel_rfl), .of (by kernel_rfl)⟩
        · have h3' : (n == n') = false := by simp [h3]
          have h3n : (n != n') = true := by simp [h3]
          simp [Ex.a, Ex.c, kidsC_map, h1, h2, h3, h3', h3n]
          exact ⟨.of (by kernel_rfl), .of (by kernel_rfl), .of (by kernel_rfl)⟩
      · have h2' : (c == c') = false := by simp [h2]
        have h2n : (c != c') = true := by simp [h2]
        simp [Ex.a, Ex.c, kidsC_map, h1, h2, h2', h2n]
        exact ⟨.of (by kernel_rfl), .of (by kernel_rfl), .of (by kernel_rfl)⟩
    · have h1' : (o == o') = false := by simp [h1]
      have h1n : (o != o') = true := by simp [h1]
      simp [Ex.a, Ex.c, kidsC_map, h1, h1', h1n]
      exact ⟨.of (by kernel_rfl), .of (by kernel_rfl), .of (by kernel_rfl)⟩
end Go.Proofs.Try
