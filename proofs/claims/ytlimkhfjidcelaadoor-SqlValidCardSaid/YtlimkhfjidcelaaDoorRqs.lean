/- Terms and statements: the reference's Same. -/
import Derived.Test.YtlimkhfjidcelaaDoorSqs
set_option linter.all false
namespace Go.Proofs.Tryd
open Go.Ab

theorem r_sameTerms (a b : List Tm) (hn : a.length ≤ 9223372036854775807) (h : ∀ x ∈ a, ∀ y ∈ b, Cf En 16 [x.a, y.a] [] (.d (.bool (x.eq y))) []) :
    Cf En 50 [.d (.sl (a.map Tm.c)), .d (.sl (b.map Tm.c))] [] (.d (.bool (agree Tm.eq a b))) [] := by
  refine cf_intro mix (fn := Tryd.f50) (by kernel_rfl) rfl (by kernel_rfl) (by decide) (by simp) ?_
  by_cases hl : a.length = b.length
  · have hl' : (a.length : Int) = b.length := by omega
    generalize hres : agree Tm.eq a b = res
    simp [hl, hl']
    refine ⟨.of (by kernel_rfl), .of (by kernel_rfl), .of (by kernel_rfl), ?_⟩
    refine aloopT mix (by decide) (fun i : Nat => { s := mkS [(0, .d (.sl (a.map Tm.c))), (1, .d (.sl (b.map Tm.c))), (5, .d (.int .i64 i))], b := mkB [] }) (fun i : Nat => i ≤ b.length ∧ agree Tm.eq (a.drop i) (b.drop i) = res) (fun i => b.length - i) 0 (by simp [hres]) (sub_mk _ [] .nil (by simp)) ?_
    rintro i ⟨hi, ho⟩
    by_cases hlt : i < b.length
    · have hlt' : (i : Int) < b.length := by omega
      have hla : i < a.length := by omega
      have hg : a[i]? = some a[i] := List.getElem?_eq_getElem hla
      have hg2 : b[i]? = some b[i] := List.getElem?_eq_getElem hlt
      have hd := agree_drop (f := Tm.eq) hg hg2
      have c1 := Tm.clen a[i]
      have c2 := Tm.clen b[i]
      have k1 := Tm.ctake a[i]
      have k2 := Tm.ctake b[i]
      simp [hl, hlt, hlt', hla, hg, hg2, c1, c2, k1, k2]
      refine ⟨.of (by kernel_rfl), ?_⟩
      refine acallT_plain (h a[i] (List.getElem_mem hla) b[i] (List.getElem_mem hlt)) (by simp [Tm.a]) ?_
      simp
      refine ⟨.of (by kernel_rfl), fun h => ⟨.of (by kernel_rfl), ?_⟩, fun h => ⟨.of (by kernel_rfl), i + 1, ⟨hlt, ?_⟩, ?_, ?_⟩⟩
      · rw [← ho, hd, h]; rfl
      · rw [← ho, hd, h]; rfl
      · refine sub_mk _ [] .nil ?_
        simp
        exact wrap_in (by omega) (by omega)
      · simp; omega
    · have hlt' : ¬ (i : Int) < b.length := by omega
      simp [hl, hlt, hlt']
      refine ⟨.of (by kernel_rfl), .of (by kernel_rfl), ?_⟩
      rw [← ho, agree_end (by omega) (by omega)]
  · have hl' : ¬ (a.length : Int) = b.length := by omega
    rw [agree_len a b hl]
    simp [hl, hl']
    exact ⟨.of (by kernel_rfl), .of (by kernel_rfl), .of (by kernel_rfl)⟩

theorem r_sameStatements (a b : List Sm) (hn : a.length ≤ 9223372036854775807) (h : ∀ x ∈ a, ∀ y ∈ b, Cf En 14 [x.a, y.a] [] (.d (.bool (x.eq y))) []) :
    Cf En 51 [.d (.sl (a.map Sm.c)), .d (.sl (b.map Sm.c))] [] (.d (.bool (agree Sm.eq a b))) [] := by
  refine cf_intro mix (fn := Tryd.f51) (by kernel_rfl) rfl (by kernel_rfl) (by decide) (by simp) ?_
  by_cases hl : a.length = b.length
  · have hl' : (a.length : Int) = b.length := by omega
    generalize hres : agree Sm.eq a b = res
    simp [hl, hl']
    refine ⟨.of (by kernel_rfl), .of (by kernel_rfl), .of (by kernel_rfl), ?_⟩
    refine aloopT mix (by decide) (fun i : Nat => { s := mkS [(0, .d (.sl (a.map Sm.c))), (1, .d (.sl (b.map Sm.c))), (5, .d (.int .i64 i))], b := mkB [] }) (fun i : Nat => i ≤ b.length ∧ agree Sm.eq (a.drop i) (b.drop i) = res) (fun i => b.length - i) 0 (by simp [hres]) (sub_mk _ [] .nil (by simp)) ?_
    rintro i ⟨hi, ho⟩
    by_cases hlt : i < b.length
    · have hlt' : (i : Int) < b.length := by omega
      have hla : i < a.length := by omega
      have hg : a[i]? = some a[i] := List.getElem?_eq_getElem hla
      have hg2 : b[i]? = some b[i] := List.getElem?_eq_getElem hlt
      have hd := agree_drop (f := Sm.eq) hg hg2
      have c1 := Sm.clen a[i]
      have c2 := Sm.clen b[i]
      have k1 := Sm.ctake a[i]
      have k2 := Sm.ctake b[i]
      simp [hl, hlt, hlt', hla, hg, hg2, c1, c2, k1, k2]
      refine ⟨.of (by kernel_rfl), ?_⟩
      refine acallT_plain (h a[i] (List.getElem_mem hla) b[i] (List.getElem_mem hlt)) (by simp [Sm.a]) ?_
      simp
      refine ⟨.of (by kernel_rfl), fun h => ⟨.of (by kernel_rfl), ?_⟩, fun h => ⟨.of (by kernel_rfl), i + 1, ⟨hlt, ?_⟩, ?_, ?_⟩⟩
      · rw [← ho, hd, h]; rfl
      · rw [← ho, hd, h]; rfl
      · refine sub_mk _ [] .nil ?_
        simp
        exact wrap_in (by omega) (by omega)
      · simp; omega
    · have hlt' : ¬ (i : Int) < b.length := by omega
      simp [hl, hlt, hlt']
      refine ⟨.of (by kernel_rfl), .of (by kernel_rfl), ?_⟩
      rw [← ho, agree_end (by omega) (by omega)]
  · have hl' : ¬ (a.length : Int) = b.length := by omega
    rw [agree_len a b hl]
    simp [hl, hl']
    exact ⟨.of (by kernel_rfl), .of (by kernel_rfl), .of (by kernel_rfl)⟩

theorem r_sameTerm : ∀ (m : Nat) (x y : Tm), SizeOf.sizeOf x < m → x.fits → Cf En 16 [x.a, y.a] [] (.d (.bool (x.eq y))) []
  | 0, _, _, h, _ => absurd h (by omega)
  | m + 1, .mk o y n t q ks, .mk o' y' n' t' q' ks', hm, hfit => by
    refine cf_intro mix (fn := Tryd.f16) (by kernel_rfl) rfl (by kernel_rfl) (by decide) (by simp) ?_
    rw [Tm.fits] at hfit
    have hq := r_sameTerms ks ks' hfit.1 fun x hx z _ => r_sameTerm m x z (by
      have := Tm.kid_lt (e := .mk o y n t q ks) (k := x) hx
      omega) (tmsFits_get ks hfit.2 x hx)
    rw [Tm.eq, tmsEq_agree]
    simp [Tm.a, Tm.c, tmsC_map]
    (repeat' (first | contradiction | exact .of (by kernel_rfl) | refine And.intro ?_ ?_ | intro _ | (refine agrd_cases (fun h => ?_) (fun h => ?_) <;> (have h' := h; (try simp at h'); first | done | simp [h, h'] | simp))))
    all_goals first | (refine acallT_plain hq (by simp) ?_; simp; (repeat' (first | contradiction | exact .of (by kernel_rfl) | refine And.intro ?_ ?_ | intro _ | (refine agrd_cases (fun h => ?_) (fun h => ?_) <;> (have h' := h; (try simp at h'); first | done | simp [h, h'] | simp))))) | skip
    all_goals simp_all
theorem r_sameTs (a b : List Tm) (hn : a.length ≤ 9223372036854775807) (h : tmsFits a) : Cf En 50 [.d (.sl (a.map Tm.c)), .d (.sl (b.map Tm.c))] [] (.d (.bool (agree Tm.eq a b))) [] :=
  r_sameTerms a b hn fun x hx y _ => r_sameTerm _ x y (Nat.lt_succ_self _) (tmsFits_get a h x hx)
theorem r_sameSource (t : List UInt8) (q : List Sm) (n : List UInt8) (t' : List UInt8) (q' : List Sm) (n' : List UInt8) (hn : q.length ≤ 9223372036854775807) (h : ∀ x ∈ q, ∀ y ∈ q', Cf En 14 [x.a, y.a] [] (.d (.bool (x.eq y))) []) :
    Cf En 49 [soA t q n, soA t' q' n'] [] (.d (.bool (soEq t q n t' q' n'))) [] := by
  refine cf_intro mix (fn := Tryd.f49) (by kernel_rfl) rfl (by kernel_rfl) (by decide) (by simp) ?_
  have hq := r_sameStatements q q' hn h
  unfold soEq
  rw [smsEq_agree]
  simp [soA, soC, smsC_map]
  (repeat' (first | contradiction | exact .of (by kernel_rfl) | refine And.intro ?_ ?_ | intro _ | (refine agrd_cases (fun h => ?_) (fun h => ?_) <;> (have h' := h; (try simp at h'); first | done | simp [h, h'] | simp))))
  all_goals first | (refine acallT_plain hq (by simp) ?_; simp; (repeat' (first | contradiction | exact .of (by kernel_rfl) | refine And.intro ?_ ?_ | intro _ | (refine agrd_cases (fun h => ?_) (fun h => ?_) <;> (have h' := h; (try simp at h'); first | done | simp [h, h'] | simp))))) | skip
  all_goals simp_all
end Go.Proofs.Tryd
