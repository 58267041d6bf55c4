import Derived.Test.YtlimkhfjidcelaaDoorKE2
import Derived.Test.YtlimkhfjidcelaaDoorKE1
import Derived.Test.YtlimkhfjidcelaaDoorAbB
set_option linter.all false
/- A term's own fields: the reference's conditions. -/
namespace Go.Proofs.Tryd
open Go.Ab
set_option maxRecDepth 100000
set_option maxHeartbeats 2000000

theorem r_plain (o y n : Int) (t q : List UInt8) (ks : List Tm) (k : Nat) : Cf Es 87 [(Tm.mk o y n t q ks).a, .d (.int .i64 k)] [] (.d (.bool (okK o y n t q k))) [] := by
  refine cf_intro mixs (fn := Tryd.f87) (by kernel_rfl) rfl (by kernel_rfl) (by decide) (by simp) ?_
  have hv1 := ups (r_valid ⟨1, n, []⟩)
  have hv3 := ups (r_valid ⟨3, 0, t⟩)
  have hn1 := r_name t
  have hn2 := r_name q
  by_cases h1 : o = 1
  · subst h1
    simp [Tm.a, Tm.c, tmsC_map, okK]
    (repeat' (first | contradiction | exact .of (by kernel_rfl) | refine And.intro ?_ ?_ | intro _ | (refine agrd_cases (fun h => ?_) (fun h => ?_) <;> (have h' := h; (try simp at h'); first | done | simp [h, h'] | simp))))
    all_goals first | done | (simp_all; done) | (simp_all; omega) | (rw [Bool.eq_iff_iff]; simp_all; omega)
  by_cases h2 : o = 2
  · subst h2
    simp [Tm.a, Tm.c, tmsC_map, okK]
    (repeat' (first | contradiction | exact .of (by kernel_rfl) | refine And.intro ?_ ?_ | intro _ | (refine agrd_cases (fun h => ?_) (fun h => ?_) <;> (have h' := h; (try simp at h'); first | done | simp [h, h'] | simp))))
    all_goals first | (refine acallT_plain hv1 (by simp [V.a]) ?_; simp; (repeat' (first | contradiction | exact .of (by kernel_rfl) | refine And.intro ?_ ?_ | intro _ | (refine agrd_cases (fun h => ?_) (fun h => ?_) <;> (have h' := h; (try simp at h'); first | done | simp [h, h'] | simp))))) | skip
    all_goals first | done | (simp_all; done) | (simp_all; omega) | (rw [Bool.eq_iff_iff]; simp_all; omega)
  by_cases h3 : o = 3
  · subst h3
    simp [Tm.a, Tm.c, tmsC_map, okK]
    (repeat' (first | contradiction | exact .of (by kernel_rfl) | refine And.intro ?_ ?_ | intro _ | (refine agrd_cases (fun h => ?_) (fun h => ?_) <;> (have h' := h; (try simp at h'); first | done | simp [h, h'] | simp))))
    all_goals first | done | (simp_all; done) | (simp_all; omega) | (rw [Bool.eq_iff_iff]; simp_all; omega)
  by_cases h4 : o = 4
  · subst h4
    simp [Tm.a, Tm.c, tmsC_map, okK]
    (repeat' (first | contradiction | exact .of (by kernel_rfl) | refine And.intro ?_ ?_ | intro _ | (refine agrd_cases (fun h => ?_) (fun h => ?_) <;> (have h' := h; (try simp at h'); first | done | simp [h, h'] | simp))))
    all_goals first | (refine acallT_plain hv3 (by simp [V.a]) ?_; simp; (repeat' (first | contradiction | exact .of (by kernel_rfl) | refine And.intro ?_ ?_ | intro _ | (refine agrd_cases (fun h => ?_) (fun h => ?_) <;> (have h' := h; (try simp at h'); first | done | simp [h, h'] | simp))))) | skip
    all_goals first | done | (simp_all; done) | (simp_all; omega) | (rw [Bool.eq_iff_iff]; simp_all; omega)
  by_cases h40 : o = 40
  · subst h40
    simp [Tm.a, Tm.c, tmsC_map, okK]
    (repeat' (first | contradiction | exact .of (by kernel_rfl) | refine And.intro ?_ ?_ | intro _ | (refine agrd_cases (fun h => ?_) (fun h => ?_) <;> (have h' := h; (try simp at h'); first | done | simp [h, h'] | simp))))
    all_goals first | (refine acallT_plain hn1 (by simp [V.a]) ?_; simp; (repeat' (first | contradiction | exact .of (by kernel_rfl) | refine And.intro ?_ ?_ | intro _ | (refine agrd_cases (fun h => ?_) (fun h => ?_) <;> (have h' := h; (try simp at h'); first | done | simp [h, h'] | simp))))) | skip
    all_goals first | (refine acallT_plain hn2 (by simp [V.a]) ?_; simp; (repeat' (first | contradiction | exact .of (by kernel_rfl) | refine And.intro ?_ ?_ | intro _ | (refine agrd_cases (fun h => ?_) (fun h => ?_) <;> (have h' := h; (try simp at h'); first | done | simp [h, h'] | simp))))) | skip
    all_goals first | done | (simp_all; done) | (simp_all; omega) | (rw [Bool.eq_iff_iff]; simp_all; omega)
  by_cases h41 : o = 41
  · subst h41
    simp [Tm.a, Tm.c, tmsC_map, okK]
    (repeat' (first | contradiction | exact .of (by kernel_rfl) | refine And.intro ?_ ?_ | intro _ | (refine agrd_cases (fun h => ?_) (fun h => ?_) <;> (have h' := h; (try simp at h'); first | done | simp [h, h'] | simp))))
    all_goals first | done | (simp_all; done) | (simp_all; omega) | (rw [Bool.eq_iff_iff]; simp_all; omega)
  have hk : okK o y n t q k = (arity o k && (y == 0 && (n == 0 && (t == [] && q == [])))) := by
    unfold okK
    rw [if_neg h1, if_neg h2, if_neg h3, if_neg h4, if_neg h40, if_neg h41]
  rw [hk]
  clear hv1 hv3 hn1 hn2 hk
  generalize hA : arity o k = A
  unfold arity at hA
  simp [Tm.a, Tm.c, tmsC_map, h1, h2, h3, h4, h40, h41]
  (repeat' (first | contradiction | exact .of (by kernel_rfl) | refine And.intro ?_ ?_ | intro _ | (refine agrd_cases (fun h => ?_) (fun h => ?_) <;> (have h' := h; (try simp at h'); first | done | simp [h, h', h1, h2, h3, h4, h40, h41] | simp [h1, h2, h3, h4, h40, h41]))))
  all_goals first | done | (simp_all; done) | (simp_all; omega) | (by_cases hk1 : k = 1 <;> simp_all <;> done) | (by_cases hk1 : k = 1 <;> simp_all <;> omega) | (by_cases hk1 : k = 3 <;> simp_all <;> done) | (by_cases hk1 : k = 3 <;> simp_all <;> omega) | (by_cases hk1 : k = 2 <;> simp_all <;> done) | (by_cases hk1 : k = 2 <;> simp_all <;> omega) | (by_cases hk1 : 2 ≤ k <;> simp_all <;> done) | (by_cases hk1 : 2 ≤ k <;> simp_all <;> omega) | skip
end Go.Proofs.Tryd
/- Terms and statements: the reference's Same. -/
namespace Go.Proofs.Tryd
open Go.Ab

theorem r_sameTerms (a b : List Tm) (hn : a.length ≤ 9223372036854775807) (h : ∀ x ∈ a, ∀ y ∈ b, Cf En 16 [x.a, y.a] [] (.d (.bool (x.eq y))) []) :
    Cf En 50 [.d (.sl (a.map Tm.c)), .d (.sl (b.map Tm.c))] [] (.d (.bool (agree Tm.eq a b))) [] := by
  refine cf_intro mix (fn := Tryd.f50) (by kernel_rfl) rfl (by kernel_rfl) (by decide) (by simp) ?_
  by_cases hl : a.length = b.length
  · have hl' : (a.length : Int) = b.length := by omega
    generalize hres : agree Tm.eq a b = res
    simp [hl, hl']
    refine ⟨.of (by kernel_rfl), .of (by kernel_rfl), .of (by kernel_rfl), ?_⟩
    refine aloopT mix (by decide) (fun i : Nat => { s := mkS [(0, .d (.sl (a.map Tm.c))), (1, .d (.sl (b.map Tm.c))), (5, .d (.int .i64 i))], b := mkB [] }) (fun i : Nat => i ≤ b.length ∧ agree Tm.eq (a.drop i) (b.drop i) = res) (fun i => b.length - i) 0 (by simp [hres]) (sub_mk _ [] .nil (by simp)) ?_
    rintro i ⟨hi, ho⟩
    by_cases hlt : i < b.length
    · have hlt' : (i : Int) < b.length := by omega
      have hla : i < a.length := by omega
      have hg : a[i]? = some a[i] := List.getElem?_eq_getElem hla
      have hg2 : b[i]? = some b[i] := List.getElem?_eq_getElem hlt
      have hd := agree_drop (f := Tm.eq) hg hg2
      have c1 := Tm.clen a[i]
      have c2 := Tm.clen b[i]
      have k1 := Tm.ctake a[i]
      have k2 := Tm.ctake b[i]
      simp [hl, hlt, hlt', hla, hg, hg2, c1, c2, k1, k2]
      refine ⟨.of (by kernel_rfl), ?_⟩
      refine acallT_plain (h a[i] (List.getElem_mem hla) b[i] (List.getElem_mem hlt)) (by simp [Tm.a]) ?_
      simp
      refine ⟨.of (by kernel_rfl), fun h => ⟨.of (by kernel_rfl), ?_⟩, fun h => ⟨.of (by kernel_rfl), i + 1, ⟨hlt, ?_⟩, ?_, ?_⟩⟩
      · rw [← ho, hd, h]; rfl
      · rw [← ho, hd, h]; rfl
      · refine sub_mk _ [] .nil ?_
        simp
        exact wrap_in (by omega) (by omega)
      · simp; omega
    · have hlt' : ¬ (i : Int) < b.length := by omega
      simp [hl, hlt, hlt']
      refine ⟨.of (by kernel_rfl), .of (by kernel_rfl), ?_⟩
      rw [← ho, agree_end (by omega) (by omega)]
  · have hl' : ¬ (a.length : Int) = b.length := by omega
    rw [agree_len a b hl]
    simp [hl, hl']
    exact ⟨.of (by kernel_rfl), .of (by kernel_rfl), .of (by kernel_rfl)⟩

theorem r_sameStatements (a b : List Sm) (hn : a.length ≤ 9223372036854775807) (h : ∀ x ∈ a, ∀ y ∈ b, Cf En 14 [x.a, y.a] [] (.d (.bool (x.eq y))) []) :
    Cf En 51 [.d (.sl (a.map Sm.c)), .d (.sl (b.map Sm.c))] [] (.d (.bool (agree Sm.eq a b))) [] := by
  refine cf_intro mix (fn := Tryd.f51) (by kernel_rfl) rfl (by kernel_rfl) (by decide) (by simp) ?_
  by_cases hl : a.length = b.length
  · have hl' : (a.length : Int) = b.length := by omega
    generalize hres : agree Sm.eq a b = res
    simp [hl, hl']
    refine ⟨.of (by kernel_rfl), .of (by kernel_rfl), .of (by kernel_rfl), ?_⟩
    refine aloopT mix (by decide) (fun i : Nat => { s := mkS [(0, .d (.sl (a.map Sm.c))), (1, .d (.sl (b.map Sm.c))), (5, .d (.int .i64 i))], b := mkB [] }) (fun i : Nat => i ≤ b.length ∧ agree Sm.eq (a.drop i) (b.drop i) = res) (fun i => b.length - i) 0 (by simp [hres]) (sub_mk _ [] .nil (by simp)) ?_
    rintro i ⟨hi, ho⟩
    by_cases hlt : i < b.length
    · have hlt' : (i : Int) < b.length := by omega
      have hla : i < a.length := by omega
      have hg : a[i]? = some a[i] := List.getElem?_eq_getElem hla
      have hg2 : b[i]? = some b[i] := List.getElem?_eq_getElem hlt
      have hd := agree_drop (f := Sm.eq) hg hg2
      have c1 := Sm.clen a[i]
      have c2 := Sm.clen b[i]
      have k1 := Sm.ctake a[i]
      have k2 := Sm.ctake b[i]
      simp [hl, hlt, hlt', hla, hg, hg2, c1, c2, k1, k2]
      refine ⟨.of (by kernel_rfl), ?_⟩
      refine acallT_plain (h a[i] (List.getElem_mem hla) b[i] (List.getElem_mem hlt)) (by simp [Sm.a]) ?_
      simp
      refine ⟨.of (by kernel_rfl), fun h => ⟨.of (by kernel_rfl), ?_⟩, fun h => ⟨.of (by kernel_rfl), i + 1, ⟨hlt, ?_⟩, ?_, ?_⟩⟩
      · rw [← ho, hd, h]; rfl
      · rw [← ho, hd, h]; rfl
      · refine sub_mk _ [] .nil ?_
        simp
        exact wrap_in (by omega) (by omega)
      · simp; omega
    · have hlt' : ¬ (i : Int) < b.length := by omega
      simp [hl, hlt, hlt']
      refine ⟨.of (by kernel_rfl), .of (by kernel_rfl), ?_⟩
      rw [← ho, agree_end (by omega) (by omega)]
  · have hl' : ¬ (a.length : Int) = b.length := by omega
    rw [agree_len a b hl]
    simp [hl, hl']
    exact ⟨.of (by kernel_rfl), .of (by kernel_rfl), .of (by kernel_rfl)⟩

theorem r_sameTerm : ∀ (m : Nat) (x y : Tm), SizeOf.sizeOf x < m → x.fits → Cf En 16 [x.a, y.a] [] (.d (.bool (x.eq y))) []
  | 0, _, _, h, _ => absurd h (by omega)
  | m + 1, .mk o y n t q ks, .mk o' y' n' t' q' ks', hm, hfit => by
    refine cf_intro mix (fn := Tryd.f16) (by kernel_rfl) rfl (by kernel_rfl) (by decide) (by simp) ?_
    rw [Tm.fits] at hfit
    have hq := r_sameTerms ks ks' hfit.1 fun x hx z _ => r_sameTerm m x z (by
      have := Tm.kid_lt (e := .mk o y n t q ks) (k := x) hx
      omega) (tmsFits_get ks hfit.2 x hx)
    rw [Tm.eq, tmsEq_agree]
    simp [Tm.a, Tm.c, tmsC_map]
    (repeat' (first | contradiction | exact .of (by kernel_rfl) | refine And.intro ?_ ?_ | intro _ | (refine agrd_cases (fun h => ?_) (fun h => ?_) <;> (have h' := h; (try simp at h'); first | done | simp [h, h'] | simp))))
    all_goals first | (refine acallT_plain hq (by simp) ?_; simp; (repeat' (first | contradiction | exact .of (by kernel_rfl) | refine And.intro ?_ ?_ | intro _ | (refine agrd_cases (fun h => ?_) (fun h => ?_) <;> (have h' := h; (try simp at h'); first | done | simp [h, h'] | simp))))) | skip
    all_goals simp_all
theorem r_sameTs (a b : List Tm) (hn : a.length ≤ 9223372036854775807) (h : tmsFits a) : Cf En 50 [.d (.sl (a.map Tm.c)), .d (.sl (b.map Tm.c))] [] (.d (.bool (agree Tm.eq a b))) [] :=
  r_sameTerms a b hn fun x hx y _ => r_sameTerm _ x y (Nat.lt_succ_self _) (tmsFits_get a h x hx)
theorem r_sameSource (t : List UInt8) (q : List Sm) (n : List UInt8) (t' : List UInt8) (q' : List Sm) (n' : List UInt8) (hn : q.length ≤ 9223372036854775807) (h : ∀ x ∈ q, ∀ y ∈ q', Cf En 14 [x.a, y.a] [] (.d (.bool (x.eq y))) []) :
    Cf En 49 [soA t q n, soA t' q' n'] [] (.d (.bool (soEq t q n t' q' n'))) [] := by
  refine cf_intro mix (fn := Tryd.f49) (by kernel_rfl) rfl (by kernel_rfl) (by decide) (by simp) ?_
  have hq := r_sameStatements q q' hn h
  unfold soEq
  rw [smsEq_agree]
  simp [soA, soC, smsC_map]
  (repeat' (first | contradiction | exact .of (by kernel_rfl) | refine And.intro ?_ ?_ | intro _ | (refine agrd_cases (fun h => ?_) (fun h => ?_) <;> (have h' := h; (try simp at h'); first | done | simp [h, h'] | simp))))
  all_goals first | (refine acallT_plain hq (by simp) ?_; simp; (repeat' (first | contradiction | exact .of (by kernel_rfl) | refine And.intro ?_ ?_ | intro _ | (refine agrd_cases (fun h => ?_) (fun h => ?_) <;> (have h' := h; (try simp at h'); first | done | simp [h, h'] | simp))))) | skip
  all_goals simp_all
end Go.Proofs.Tryd
/- Statements: the reference's Same. -/
namespace Go.Proofs.Tryd
open Go.Ab
set_option maxHeartbeats 1000000

theorem Sm.eq_heads (f : Int) (al d s : Bool) (is ft fq fn js w g h ks is' ft' fq' fn' js' w' g' h' ks') :
    (Sm.mk f al d s is ft fq fn js w g h ks).eq (.mk f al d s is' ft' fq' fn' js' w' g' h' ks') = (agree It.eq is is' && (agree Jo.eq js js' && (soEq ft fq fn ft' fq' fn' && (agree Tm.eq w w' && (agree Tm.eq g g' && (agree Tm.eq h h' && agree Sm.eq ks ks')))))) := by
  rw [Sm.eq, ← soEq, josEq_agree, smsEq_agree ks ks']
  rw [Bool.eq_iff_iff]
  simp
  grind

theorem r_same : ∀ (m : Nat) (x y : Sm), SizeOf.sizeOf x < m → x.fits → Cf En 14 [x.a, y.a] [] (.d (.bool (x.eq y))) []
  | 0, _, _, h, _ => absurd h (by omega)
  | m + 1, x, y, hm, hfit => by
    refine cf_intro mix (fn := Tryd.f14) (by kernel_rfl) rfl (by kernel_rfl) (by decide) (by simp) ?_
    have hq := fun (a : Sm) (ha : SizeOf.sizeOf a < m) (fa : a.fits) (b : Sm) => r_same m a b ha fa
    obtain ⟨f, al, d, s, is, ft, fq, fn, js, w, g, h, ks⟩ := x
    obtain ⟨f', al', d', s', is', ft', fq', fn', js', w', g', h', ks'⟩ := y
    have hfq : ∀ a ∈ fq, SizeOf.sizeOf a < m := fun a ha => by
      have := Sm.q_lt (e := .mk f al d s is ft fq fn js w g h ks) ha
      omega
    have hks : ∀ a ∈ ks, SizeOf.sizeOf a < m := fun a ha => by
      have := Sm.kid_lt (e := .mk f al d s is ft fq fn js w g h ks) ha
      omega
    have hjs : ∀ j ∈ js, ∀ a ∈ j.qs, SizeOf.sizeOf a < m := fun j hj a ha => by
      have := Sm.j_lt (e := .mk f al d s is ft fq fn js w g h ks) hj
      have := Jo.q_lt ha
      omega
    rw [Sm.fits] at hfit
    obtain ⟨⟨fi1, fi2⟩, ⟨fq1, fq2⟩, ⟨fj1, fj2⟩, ⟨fw1, fw2⟩, ⟨fg1, fg2⟩, ⟨fh1, fh2⟩, fk1, fk2⟩ := hfit
    by_cases hA : f = f' ∧ al = al' ∧ d = d' ∧ s = s' ∧ is.length = is'.length ∧ js.length = js'.length
    · obtain ⟨rfl, rfl, rfl, rfl, hli, hlj⟩ := hA
      have hli' : (is.length : Int) = is'.length := by omega
      have hlj' : (js.length : Int) = js'.length := by omega
      rw [Sm.eq_heads]
      generalize hR : (agree It.eq is is' && (agree Jo.eq js js' && (soEq ft fq fn ft' fq' fn' && (agree Tm.eq w w' && (agree Tm.eq g g' && (agree Tm.eq h h' && agree Sm.eq ks ks')))))) = R
      simp [Sm.a, Sm.c, hli', hlj', hli, hlj, josC_map, smsC_map]
      refine ⟨.of (by kernel_rfl), .of (by kernel_rfl), .of (by kernel_rfl), ?_⟩
      refine aloopT mix (by decide) (fun i : Nat => { s := mkS [(2, .ptr 2 0 0), (3, .ptr 3 0 0), (5, .d (.int .i64 i))], b := mkB [(2, 2, .var (Sm.a (.mk f al d s is ft fq fn js w g h ks)).cells), (3, 3, .var (Sm.a (.mk f al d s is' ft' fq' fn' js' w' g' h' ks')).cells)] }) (fun i : Nat => i ≤ is'.length ∧ agree It.eq (is.drop i) (is'.drop i) = agree It.eq is is') (fun i => is'.length - i) 0 (by simp) (sub_mk _ _ ⟨by simp, by simp, by simp [renOf, Blk.live, Sm.a, Sm.c, josC_map, smsC_map], by simp⟩ (by simp [renOf])) ?_
      rintro i ⟨hi, ho⟩
      by_cases hlt : i < is'.length
      · have hlt' : (i : Int) < is'.length := by omega
        obtain ⟨x, hg⟩ : ∃ x, is[i]? = some x := ⟨_, List.getElem?_eq_getElem (by omega)⟩
        obtain ⟨y, hg2⟩ : ∃ y, is'[i]? = some y := ⟨_, List.getElem?_eq_getElem hlt⟩
        have hd := agree_drop (f := It.eq) hg hg2
        have hqt := r_sameTerm _ x.t y.t (Nat.lt_succ_self _) (itFits_get fi2 (List.mem_of_getElem? hg))
        have he : x.eq y = (x.n == y.n && x.t.eq y.t) := rfl
        obtain ⟨⟨o0, y0, n0, t0, q0, ks0⟩, nm⟩ := x
        obtain ⟨⟨o1, y1, n1, t1, q1, ks1⟩, nm'⟩ := y
        simp only at he hqt
        have key : agree It.eq is is' = (nm == nm' && (Tm.mk o0 y0 n0 t0 q0 ks0).eq (Tm.mk o1 y1 n1 t1 q1 ks1) && agree It.eq (is.drop (i + 1)) (is'.drop (i + 1))) := by rw [← ho, hd, he]
        clear ho hd he
        have hgi : ∀ h, is[i]'h = _ := fun h => (List.getElem?_eq_some_iff.1 hg).2
        have hgi2 : ∀ h, is'[i]'h = _ := fun h => (List.getElem?_eq_some_iff.1 hg2).2
        simp [Sm.a, Sm.c, hli', hlj', hli, hlj, josC_map, smsC_map, hlt, hlt', hg, hg2, hgi, hgi2, It.c, Tm.c, tmsC_map]
        refine ⟨.of (by kernel_rfl), ?_⟩
        (repeat' (first | contradiction | exact .of (by kernel_rfl) | refine And.intro ?_ ?_ | intro _ | (refine agrd_cases (fun h => ?_) (fun h => ?_) <;> (have h' := h; (try simp at h'); first | done | simp [h, h', hlt, hlt', hg, hg2, hgi, hgi2, It.c, Tm.c, tmsC_map] | simp [hlt, hlt', hg, hg2, hgi, hgi2, It.c, Tm.c, tmsC_map]))))
        all_goals first | (refine acallT_plain hqt (by simp [Tm.a, Tm.c, tmsC_map]) ?_; simp; (repeat' (first | contradiction | exact .of (by kernel_rfl) | refine And.intro ?_ ?_ | intro _ | (refine agrd_cases (fun h => ?_) (fun h => ?_) <;> (have h' := h; (try simp at h'); first | done | simp [h, h'] | simp))))) | skip
        all_goals first
          | (refine ⟨i + 1, ⟨hlt, ?_⟩, sub_mk _ [(2, 2, _), (3, 3, _)] ⟨by simp, by simp, by simp [renOf, Blk.live, Sm.a, Sm.c, josC_map, smsC_map], by simp⟩ ?_, ?_⟩
             · rw [key]; clear hR key; simp_all
             · simp [renOf]; exact wrap_in (by omega) (by omega)
             · simp; omega)
          | (rw [← hR, key]; clear hR key; simp_all)
      · have hlt' : ¬ (i : Int) < is'.length := by omega
        rw [agree_end (by omega) (by omega)] at ho
        simp [Sm.a, Sm.c, hli', hlj', hli, hlj, josC_map, smsC_map, hlt, hlt']
        refine ⟨.of (by kernel_rfl), .of (by kernel_rfl), ?_⟩
        refine aloopT mix (by decide) (fun i : Nat => { s := mkS [(2, .ptr 2 0 0), (3, .ptr 3 0 0), (6, .d (.int .i64 i))], b := mkB [(2, 2, .var (Sm.a (.mk f al d s is ft fq fn js w g h ks)).cells), (3, 3, .var (Sm.a (.mk f al d s is' ft' fq' fn' js' w' g' h' ks')).cells)] }) (fun i : Nat => i ≤ js'.length ∧ agree Jo.eq (js.drop i) (js'.drop i) = agree Jo.eq js js') (fun i => js'.length - i) 0 (by simp) (sub_mk _ [(2, 2, _), (3, 3, _)] ⟨by simp, by simp, by simp [renOf, Blk.live, Sm.a, Sm.c, josC_map, smsC_map], by simp⟩ (by simp [renOf])) ?_
        clear hi hlt hlt' i
        rintro i ⟨hi, hj⟩
        by_cases hlt : i < js'.length
        · have hlt' : (i : Int) < js'.length := by omega
          obtain ⟨x, hg⟩ : ∃ x, js[i]? = some x := ⟨_, List.getElem?_eq_getElem (by omega)⟩
          obtain ⟨y, hg2⟩ : ∃ y, js'[i]? = some y := ⟨_, List.getElem?_eq_getElem hlt⟩
          have hd := agree_drop (f := Jo.eq) hg hg2
          have hx := josFits_get _ fj2 x (List.mem_of_getElem? hg)
          have hxq := hjs x (List.mem_of_getElem? hg)
          obtain ⟨k0, t0, q0, n0, o0⟩ := x
          obtain ⟨k1, t1, q1, n1, o1⟩ := y
          rw [Jo.fits] at hx
          have e1 := r_sameSource t0 q0 n0 t1 q1 n1 hx.1.1 fun a ha b _ => hq a (hxq a ha) (smsFits_get _ hx.1.2 a ha) b
          have e2 := r_sameTs o0 o1 hx.2.1 hx.2.2
          have key : agree Jo.eq js js' = (k0 == k1 && (soEq t0 q0 n0 t1 q1 n1 && agree Tm.eq o0 o1) && agree Jo.eq (js.drop (i + 1)) (js'.drop (i + 1))) := by rw [← hj, hd, Jo.eq, soEq]
          clear hj hd
          have hgi : ∀ h, js[i]'h = _ := fun h => (List.getElem?_eq_some_iff.1 hg).2
          have hgi2 : ∀ h, js'[i]'h = _ := fun h => (List.getElem?_eq_some_iff.1 hg2).2
          simp [Sm.a, Sm.c, hli', hlj', hli, hlj, josC_map, smsC_map, hlt, hlt', hg, hg2, hgi, hgi2, Jo.c]
          refine ⟨.of (by kernel_rfl), ?_⟩
          (repeat' (first | contradiction | exact .of (by kernel_rfl) | refine And.intro ?_ ?_ | intro _ | (refine agrd_cases (fun h => ?_) (fun h => ?_) <;> (have h' := h; (try simp at h'); first | done | simp [h, h', hlt, hlt', hg, hg2, hgi, hgi2, Jo.c, josC_map, smsC_map] | simp [hlt, hlt', hg, hg2, hgi, hgi2, Jo.c, josC_map, smsC_map]))))
          all_goals first | (refine acallT_plain e1 (by simp [soA, soC, smsC_map]) ?_; simp [hlt, hlt', hg, hg2, hgi, hgi2, Jo.c, josC_map, smsC_map]; (repeat' (first | contradiction | exact .of (by kernel_rfl) | refine And.intro ?_ ?_ | intro _ | (refine agrd_cases (fun h => ?_) (fun h => ?_) <;> (have h' := h; (try simp at h'); first | done | simp [h, h', hlt, hlt', hg, hg2, hgi, hgi2, Jo.c, josC_map, smsC_map] | simp [hlt, hlt', hg, hg2, hgi, hgi2, Jo.c, josC_map, smsC_map]))))) | skip
          all_goals first | (refine acallT_plain e2 (by simp) ?_; simp [hlt, hlt', hg, hg2, hgi, hgi2, Jo.c, josC_map, smsC_map]; (repeat' (first | contradiction | exact .of (by kernel_rfl) | refine And.intro ?_ ?_ | intro _ | (refine agrd_cases (fun h => ?_) (fun h => ?_) <;> (have h' := h; (try simp at h'); first | done | simp [h, h', hlt, hlt', hg, hg2, hgi, hgi2, Jo.c, josC_map, smsC_map] | simp [hlt, hlt', hg, hg2, hgi, hgi2, Jo.c, josC_map, smsC_map]))))) | skip
          all_goals first
            | (refine ⟨i + 1, ⟨hlt, ?_⟩, sub_mk _ [(2, 2, _), (3, 3, _)] ⟨by simp, by simp, by simp [renOf, Blk.live, Sm.a, Sm.c, josC_map, smsC_map], by simp⟩ ?_, ?_⟩
               · rw [key]; clear hR key; simp_all
               · simp [renOf]; exact wrap_in (by omega) (by omega)
               · simp; omega)
            | (rw [← hR, key]; clear hR key; simp_all)
        · have hlt' : ¬ (i : Int) < js'.length := by omega
          rw [agree_end (by omega) (by omega)] at hj
          have e1 := r_sameSource ft fq fn ft' fq' fn' fq1 fun a ha b _ => hq a (hfq a ha) (smsFits_get _ fq2 a ha) b
          have e4 := r_sameTs w w' fw1 fw2
          have e5 := r_sameTs g g' fg1 fg2
          have e6 := r_sameTs h h' fh1 fh2
          have e7 := r_sameStatements ks ks' fk1 fun a ha b _ => hq a (hks a ha) (smsFits_get _ fk2 a ha) b
          rw [← ho, ← hj] at hR
          clear ho hj hlt
          simp [Sm.a, Sm.c, hli', hlj', hli, hlj, josC_map, smsC_map, hlt']
          refine ⟨.of (by kernel_rfl), ?_⟩
          refine acallT_plain e1 (by simp [soA, soC, smsC_map]) ?_
          simp [josC_map, smsC_map]
          (repeat' (first | contradiction | exact .of (by kernel_rfl) | refine And.intro ?_ ?_ | intro _ | (refine agrd_cases (fun h => ?_) (fun h => ?_) <;> (have h' := h; (try simp at h'); first | done | simp [h, h', josC_map, smsC_map] | simp [josC_map, smsC_map]))))
          all_goals first | (refine acallT_plain e4 (by simp) ?_; simp [josC_map, smsC_map]; (repeat' (first | contradiction | exact .of (by kernel_rfl) | refine And.intro ?_ ?_ | intro _ | (refine agrd_cases (fun h => ?_) (fun h => ?_) <;> (have h' := h; (try simp at h'); first | done | simp [h, h', josC_map, smsC_map] | simp [josC_map, smsC_map]))))) | skip
          all_goals first | (refine acallT_plain e5 (by simp) ?_; simp [josC_map, smsC_map]; (repeat' (first | contradiction | exact .of (by kernel_rfl) | refine And.intro ?_ ?_ | intro _ | (refine agrd_cases (fun h => ?_) (fun h => ?_) <;> (have h' := h; (try simp at h'); first | done | simp [h, h', josC_map, smsC_map] | simp [josC_map, smsC_map]))))) | skip
          all_goals first | (refine acallT_plain e6 (by simp) ?_; simp [josC_map, smsC_map]; (repeat' (first | contradiction | exact .of (by kernel_rfl) | refine And.intro ?_ ?_ | intro _ | (refine agrd_cases (fun h => ?_) (fun h => ?_) <;> (have h' := h; (try simp at h'); first | done | simp [h, h', josC_map, smsC_map] | simp [josC_map, smsC_map]))))) | skip
          all_goals first | (refine acallT_plain e7 (by simp) ?_; simp [josC_map, smsC_map]; (repeat' (first | contradiction | exact .of (by kernel_rfl) | refine And.intro ?_ ?_ | intro _ | (refine agrd_cases (fun h => ?_) (fun h => ?_) <;> (have h' := h; (try simp at h'); first | done | simp [h, h', josC_map, smsC_map] | simp [josC_map, smsC_map]))))) | skip
          all_goals (rw [← hR]; clear hR; simp_all)
    · have hF : (Sm.mk f al d s is ft fq fn js w g h ks).eq (.mk f' al' d' s' is' ft' fq' fn' js' w' g' h' ks') = false := by
        cases hE : (Sm.mk f al d s is ft fq fn js w g h ks).eq (.mk f' al' d' s' is' ft' fq' fn' js' w' g' h' ks') with
        | false => rfl
        | true =>
          rw [Sm.eq, josEq_agree] at hE
          simp only [Bool.and_eq_true, beq_iff_eq] at hE
          refine absurd ⟨hE.1, hE.2.1, hE.2.2.1, hE.2.2.2.1, ?_, ?_⟩ hA
          · exact Classical.byContradiction fun hc => by rw [agree_len _ _ hc] at hE; simp at hE
          · exact Classical.byContradiction fun hc => by rw [agree_len js js' hc] at hE; simp at hE
      rw [hF]
      clear hF hq hfq hks hjs
      simp [Sm.a, Sm.c, josC_map, smsC_map]
      (repeat' (first | contradiction | exact .of (by kernel_rfl) | refine And.intro ?_ ?_ | intro _ | (refine agrd_cases (fun h => ?_) (fun h => ?_) <;> (have h' := h; (try simp at h'); first | done | simp [h, h', josC_map, smsC_map] | simp [josC_map, smsC_map]))))
      all_goals (exfalso; apply hA; simp_all; omega)
end Go.Proofs.Tryd
/- Depths of terms. -/
namespace Go.Proofs.Tryd
open Go.Ab

theorem most_step {l : List Int} {i : Nat} {x : Int} (h : l[i]? = some x) : (if most (l.take i) < x then x else most (l.take i)) = most (l.take (i + 1)) := by
  rw [most_take h]
  split <;> omega
theorem most_all {l : List Int} {i : Nat} (h : l.length ≤ i) : most (l.take i) = most l := by rw [List.take_of_length_le h]

theorem s_termDepth : ∀ (m : Nat) (x : Tm), SizeOf.sizeOf x < m → x.fits → Cf En 38 [x.a] [] (.d (.int .i64 x.dep)) []
  | 0, _, h, _ => absurd h (by omega)
  | m + 1, .mk o y n t q ks, hm, hfit => by
    refine cf_intro mix (fn := Tryd.f38) (by kernel_rfl) rfl (by kernel_rfl) (by decide) (by simp) ?_
    rw [Tm.fits] at hfit
    have hq := fun (x : Tm) (hx : x ∈ ks) => s_termDepth m x (by
      have := Tm.kid_lt (e := .mk o y n t q ks) (k := x) hx
      omega) (tmsFits_get ks hfit.2 x hx)
    have hl := hfit.1
    rw [Tm.dep, tmsDep_most]
    simp [Tm.a, Tm.c, tmsC_map]
    refine ⟨.of (by kernel_rfl), .of (by kernel_rfl), .of (by kernel_rfl), ?_⟩
    refine aloopT mix (by decide) (fun i : Nat => { s := mkS [(1, .ptr 1 0 0), (3, .d (.int .i64 (most ((ks.map Tm.dep).take i)))), (7, .d (.sl (ks.map Tm.c))), (8, .d (.int .i64 ks.length)), (9, .d (.int .i64 i))], b := mkB [(1, 1, .var (Tm.a (.mk o y n t q ks)).cells)] }) (fun i : Nat => i ≤ ks.length) (fun i => ks.length - i) 0 (by simp) (sub_mk _ _ ⟨by simp, by simp, by simp [renOf, Blk.live, Tm.a, Tm.c, tmsC_map], by simp⟩ (by simp [renOf, most])) ?_
    rintro i hi
    by_cases hlt : i < ks.length
    · have hlt' : (i : Int) < ks.length := by omega
      have hg : ks[i]? = some ks[i] := List.getElem?_eq_getElem hlt
      have hk := most_step (l := ks.map Tm.dep) (i := i) (x := ks[i].dep) (by rw [List.getElem?_map, hg]; rfl)
      have c1 := Tm.clen ks[i]
      have k1 := Tm.ctake ks[i]
      simp [Tm.a, Tm.c, tmsC_map, hlt, hlt', hg, c1, k1]
      refine ⟨.of (by kernel_rfl), .of (by kernel_rfl), ?_⟩
      refine acallT_plain (hq ks[i] (List.getElem_mem hlt)) (by simp [Tm.a]) ?_
      simp
      refine ⟨.of (by kernel_rfl), .of (by kernel_rfl), i + 1, hlt, ?_, ?_⟩
      · refine sub_mk _ [(1, 1, _)] ⟨by simp, by simp, by simp [renOf, Blk.live, Tm.a, Tm.c, tmsC_map], by simp⟩ ?_
        simp [renOf]
        exact ⟨hk, wrap_in (by omega) (by omega)⟩
      · simp; omega
    · have hlt' : ¬ (i : Int) < ks.length := by omega
      have hall := most_all (l := ks.map Tm.dep) (i := i) (by simp; omega)
      simp [Tm.a, Tm.c, tmsC_map, hlt, hlt', up1, hall]
      exact ⟨.of (by kernel_rfl), .of (by kernel_rfl)⟩

theorem r_termDepth : ∀ (m : Nat) (x : Tm), SizeOf.sizeOf x < m → x.fits → Cf En 41 [x.a] [] (.d (.int .i64 x.dep)) []
  | 0, _, h, _ => absurd h (by omega)
  | m + 1, .mk o y n t q ks, hm, hfit => by
    refine cf_intro mix (fn := Tryd.f41) (by kernel_rfl) rfl (by kernel_rfl) (by decide) (by simp) ?_
    rw [Tm.fits] at hfit
    have hq := fun (x : Tm) (hx : x ∈ ks) => r_termDepth m x (by
      have := Tm.kid_lt (e := .mk o y n t q ks) (k := x) hx
      omega) (tmsFits_get ks hfit.2 x hx)
    have hl := hfit.1
    rw [Tm.dep, tmsDep_most]
    simp [Tm.a, Tm.c, tmsC_map]
    refine ⟨.of (by kernel_rfl), .of (by kernel_rfl), .of (by kernel_rfl), ?_⟩
    refine aloopT mix (by decide) (fun i : Nat => { s := mkS [(1, .ptr 1 0 0), (3, .d (.int .i64 (most ((ks.map Tm.dep).take i)))), (4, .d (.int .i64 i))], b := mkB [(1, 1, .var (Tm.a (.mk o y n t q ks)).cells)] }) (fun i : Nat => i ≤ ks.length) (fun i => ks.length - i) 0 (by simp) (sub_mk _ _ ⟨by simp, by simp, by simp [renOf, Blk.live, Tm.a, Tm.c, tmsC_map], by simp⟩ (by simp [renOf, most])) ?_
    rintro i hi
    by_cases hlt : i < ks.length
    · have hlt' : (i : Int) < ks.length := by omega
      have hg : ks[i]? = some ks[i] := List.getElem?_eq_getElem hlt
      have hk := most_step (l := ks.map Tm.dep) (i := i) (x := ks[i].dep) (by rw [List.getElem?_map, hg]; rfl)
      have c1 := Tm.clen ks[i]
      have k1 := Tm.ctake ks[i]
      simp [Tm.a, Tm.c, tmsC_map, hlt, hlt', hg, c1, k1]
      refine ⟨.of (by kernel_rfl), ?_⟩
      refine acallT_plain (hq ks[i] (List.getElem_mem hlt)) (by simp [Tm.a]) ?_
      simp
      refine ⟨.of (by kernel_rfl), .of (by kernel_rfl), i + 1, hlt, ?_, ?_⟩
      · refine sub_mk _ [(1, 1, _)] ⟨by simp, by simp, by simp [renOf, Blk.live, Tm.a, Tm.c, tmsC_map], by simp⟩ ?_
        simp [renOf]
        exact ⟨hk, wrap_in (by omega) (by omega)⟩
      · simp; omega
    · have hlt' : ¬ (i : Int) < ks.length := by omega
      have hall := most_all (l := ks.map Tm.dep) (i := i) (by simp; omega)
      simp [Tm.a, Tm.c, tmsC_map, hlt, hlt', up1, hall]
      exact ⟨.of (by kernel_rfl), .of (by kernel_rfl)⟩
theorem r_deepest (l : List Tm) (hl : l.length ≤ 9223372036854775807) (hf : tmsFits l) : Cf En 84 [.d (.sl (l.map Tm.c))] [] (.d (.int .i64 (tmsDep l))) [] := by
  refine cf_intro mix (fn := Tryd.f84) (by kernel_rfl) rfl (by kernel_rfl) (by decide) (by simp) ?_
  rw [tmsDep_most]
  simp
  refine ⟨.of (by kernel_rfl), .of (by kernel_rfl), .of (by kernel_rfl), ?_⟩
  refine aloopT mix (by decide) (fun i : Nat => { s := mkS [(0, .d (.sl (l.map Tm.c))), (3, .d (.int .i64 (most ((l.map Tm.dep).take i)))), (4, .d (.int .i64 i))], b := mkB [] }) (fun i : Nat => i ≤ l.length) (fun i => l.length - i) 0 (by simp) (sub_mk _ [] .nil (by simp [most])) ?_
  rintro i hi
  by_cases hlt : i < l.length
  · have hlt' : (i : Int) < l.length := by omega
    have hg : l[i]? = some l[i] := List.getElem?_eq_getElem hlt
    have hk := most_step (l := l.map Tm.dep) (i := i) (x := l[i].dep) (by rw [List.getElem?_map, hg]; rfl)
    have c1 := Tm.clen l[i]
    have k1 := Tm.ctake l[i]
    simp [hlt, hlt', hg, c1, k1]
    refine ⟨.of (by kernel_rfl), ?_⟩
    refine acallT_plain (r_termDepth _ l[i] (Nat.lt_succ_self _) (tmsFits_get l hf _ (List.getElem_mem hlt))) (by simp [Tm.a]) ?_
    simp
    refine ⟨.of (by kernel_rfl), .of (by kernel_rfl), i + 1, hlt, ?_, ?_⟩
    · refine sub_mk _ [] .nil ?_
      simp
      exact ⟨hk, wrap_in (by omega) (by omega)⟩
    · simp; omega
  · have hlt' : ¬ (i : Int) < l.length := by omega
    have hall := most_all (l := l.map Tm.dep) (i := i) (by simp; omega)
    simp [hlt, hlt', hall]
    exact ⟨.of (by kernel_rfl), .of (by kernel_rfl)⟩
theorem r_depths (l : List Sm) (hl : l.length ≤ 9223372036854775807) (h : ∀ x ∈ l, Cf En 37 [x.a] [] (.d (.int .i64 x.dep)) []) : Cf En 83 [.d (.sl (l.map Sm.c))] [] (.d (.int .i64 (smsDep l))) [] := by
  refine cf_intro mix (fn := Tryd.f83) (by kernel_rfl) rfl (by kernel_rfl) (by decide) (by simp) ?_
  rw [smsDep_most]
  simp
  refine ⟨.of (by kernel_rfl), .of (by kernel_rfl), .of (by kernel_rfl), ?_⟩
  refine aloopT mix (by decide) (fun i : Nat => { s := mkS [(0, .d (.sl (l.map Sm.c))), (3, .d (.int .i64 (most ((l.map Sm.dep).take i)))), (4, .d (.int .i64 i))], b := mkB [] }) (fun i : Nat => i ≤ l.length) (fun i => l.length - i) 0 (by simp) (sub_mk _ [] .nil (by simp [most])) ?_
  rintro i hi
  by_cases hlt : i < l.length
  · have hlt' : (i : Int) < l.length := by omega
    have hg : l[i]? = some l[i] := List.getElem?_eq_getElem hlt
    have hk := most_step (l := l.map Sm.dep) (i := i) (x := l[i].dep) (by rw [List.getElem?_map, hg]; rfl)
    have c1 := Sm.clen l[i]
    have k1 := Sm.ctake l[i]
    simp [hlt, hlt', hg, c1, k1]
    refine ⟨.of (by kernel_rfl), ?_⟩
    refine acallT_plain (h l[i] (List.getElem_mem hlt)) (by simp [Sm.a]) ?_
    simp
    refine ⟨.of (by kernel_rfl), .of (by kernel_rfl), i + 1, hlt, ?_, ?_⟩
    · refine sub_mk _ [] .nil ?_
      simp
      exact ⟨hk, wrap_in (by omega) (by omega)⟩
    · simp; omega
  · have hlt' : ¬ (i : Int) < l.length := by omega
    have hall := most_all (l := l.map Sm.dep) (i := i) (by simp; omega)
    simp [hlt, hlt', hall]
    exact ⟨.of (by kernel_rfl), .of (by kernel_rfl)⟩
end Go.Proofs.Tryd
/- Depths of statements: the reference's. -/
namespace Go.Proofs.Tryd
open Go.Ab
set_option maxHeartbeats 1000000

theorem itsDep_most (l : List It) : itsDep l = most (l.map fun i => i.t.dep) := by
  rw [itsDep, tmsDep_most, List.map_map]; rfl
theorem mxi (a b : Int) : (if a < b then b else a) = max a b := by split <;> omega
theorem r_depth : ∀ (m : Nat) (x : Sm), SizeOf.sizeOf x < m → x.fits → Cf En 37 [x.a] [] (.d (.int .i64 x.dep)) []
  | 0, _, h, _ => absurd h (by omega)
  | m + 1, x, hm, hfit => by
    refine cf_intro mix (fn := Tryd.f37) (by kernel_rfl) rfl (by kernel_rfl) (by decide) (by simp) ?_
    have hq := fun (a : Sm) (ha : SizeOf.sizeOf a < m) (fa : a.fits) => r_depth m a ha fa
    obtain ⟨f, al, d, s, is, ft, fq, fn, js, w, g, h, ks⟩ := x
    have hfq : ∀ a ∈ fq, SizeOf.sizeOf a < m := fun a ha => by
      have := Sm.q_lt (e := .mk f al d s is ft fq fn js w g h ks) ha
      omega
    have hks : ∀ a ∈ ks, SizeOf.sizeOf a < m := fun a ha => by
      have := Sm.kid_lt (e := .mk f al d s is ft fq fn js w g h ks) ha
      omega
    have hjs : ∀ j ∈ js, ∀ a ∈ j.qs, SizeOf.sizeOf a < m := fun j hj a ha => by
      have := Sm.j_lt (e := .mk f al d s is ft fq fn js w g h ks) hj
      have := Jo.q_lt ha
      omega
    rw [Sm.fits] at hfit
    obtain ⟨⟨fi1, fi2⟩, ⟨fq1, fq2⟩, ⟨fj1, fj2⟩, ⟨fw1, fw2⟩, ⟨fg1, fg2⟩, ⟨fh1, fh2⟩, fk1, fk2⟩ := hfit
    have e1 := r_depths ks fk1 fun a ha => hq a (hks a ha) (smsFits_get _ fk2 a ha)
    have e2 := r_depths fq fq1 fun a ha => hq a (hfq a ha) (smsFits_get _ fq2 a ha)
    have e3 := r_deepest w fw1 fw2
    have e4 := r_deepest g fg1 fg2
    have e5 := r_deepest h fh1 fh2
    rw [Sm.dep, itsDep_most, josDep_most]
    generalize hK : smsDep ks = K at *
    generalize hQ : smsDep fq = Q at *
    generalize hW : tmsDep w = W at *
    generalize hG : tmsDep g = G at *
    generalize hH : tmsDep h = H at *
    simp [Sm.a, Sm.c, smsC_map, josC_map]
    refine ⟨.of (by kernel_rfl), acallT_plain e1 (by simp) ?_⟩
    simp [smsC_map, josC_map]
    refine acallT_plain e2 (by simp) ?_
    simp [smsC_map, josC_map]
    refine acallT_plain e3 (by simp) ?_
    simp [smsC_map, josC_map]
    refine acallT_plain e4 (by simp) ?_
    simp [smsC_map, josC_map]
    refine acallT_plain e5 (by simp) ?_
    have hN0 : 0 ≤ max (max (max (max K Q) W) G) H := by
      have := most_nonneg (ks.map Sm.dep)
      rw [smsDep_most] at hK
      omega
    have hfin : ∀ M J : Int, max K (max Q (max W (max G (max H (max M J))))) = max (max (max (max (max (max K Q) W) G) H) M) J := fun M J => by simp only [Int.max_assoc]
    simp [smsC_map, josC_map, mxi]
    rw [hfin]
    generalize hN : max (max (max (max K Q) W) G) H = N at *
    clear hfin
    refine ⟨.of (by kernel_rfl), .of (by kernel_rfl), ?_⟩
    refine aloopT mix (by decide) (fun i : Nat => { s := mkS [(1, .ptr 1 0 0), (3, .d (.int .i64 (max N (most ((is.map fun i => i.t.dep).take i))))), (4, .d (.int .i64 i))], b := mkB [(1, 1, .var (Sm.a (.mk f al d s is ft fq fn js w g h ks)).cells)] }) (fun i : Nat => i ≤ is.length) (fun i => is.length - i) 0 (by simp) (sub_mk _ _ ⟨by simp, by simp, by simp [renOf, Blk.live, Sm.a, Sm.c, smsC_map, josC_map], by simp⟩ (by
      simp [renOf, most]
      omega)) ?_
    rintro i hi
    by_cases hlt : i < is.length
    · have hlt' : (i : Int) < is.length := by omega
      have hg : is[i]? = some is[i] := List.getElem?_eq_getElem hlt
      have hk := most_take (l := is.map fun i => i.t.dep) (i := i) (x := is[i].t.dep) (by rw [List.getElem?_map, hg]; rfl)
      have hq := s_termDepth
      have c1 := It.clen is[i]
      have c2 := Tm.clen is[i].t
      have k1 := Tm.ctake' is[i].t
      simp [Sm.a, Sm.c, smsC_map, josC_map, hlt, hlt', hg, It.c, c2]
      refine ⟨.of (by kernel_rfl), ?_⟩
      refine acallT_plain (r_termDepth _ is[i].t (Nat.lt_succ_self _) (itFits_get fi2 (List.getElem_mem hlt))) (by simp [Tm.a, c2]) ?_
      simp
      refine ⟨.of (by kernel_rfl), .of (by kernel_rfl), i + 1, hlt, ?_, ?_⟩
      · refine sub_mk _ [(1, 1, _)] ⟨by simp, by simp, by simp [renOf, Blk.live, Sm.a, Sm.c, smsC_map, josC_map], by simp⟩ ?_
        simp [renOf]
        refine ⟨?_, wrap_in (by omega) (by omega)⟩
        try simp at hk
        rw [hk, mxi]
        omega
      · simp; omega
    · have hlt' : ¬ (i : Int) < is.length := by omega
      have hall := most_all (l := is.map fun i => i.t.dep) (i := i) (by simp; omega)
      generalize hM : most (is.map fun i => i.t.dep) = M at *
      simp [Sm.a, Sm.c, smsC_map, josC_map, hlt, hlt', hall]
      refine ⟨.of (by kernel_rfl), .of (by kernel_rfl), ?_⟩
      refine aloopT mix (by decide) (fun i : Nat => { s := mkS [(1, .ptr 1 0 0), (3, .d (.int .i64 (max (max N M) (most ((js.map Jo.dep).take i))))), (5, .d (.int .i64 i))], b := mkB [(1, 1, .var (Sm.a (.mk f al d s is ft fq fn js w g h ks)).cells)] }) (fun i : Nat => i ≤ js.length) (fun i => js.length - i) 0 (by simp) (sub_mk _ [(1, 1, _)] ⟨by simp, by simp, by simp [renOf, Blk.live, Sm.a, Sm.c, smsC_map, josC_map], by simp⟩ (by
        simp [renOf, most]
        have := most_nonneg (is.map fun i => i.t.dep)
        try simp at hall
        omega)) ?_
      clear hi hlt hlt' hall i
      rintro i hi
      by_cases hlt : i < js.length
      · have hlt' : (i : Int) < js.length := by omega
        obtain ⟨x, hg⟩ : ∃ x, js[i]? = some x := ⟨_, List.getElem?_eq_getElem hlt⟩
        have hk := most_take (l := js.map Jo.dep) (i := i) (x := x.dep) (by rw [List.getElem?_map, hg]; rfl)
        have hx := josFits_get _ fj2 x (List.mem_of_getElem? hg)
        have hxq := hjs x (List.mem_of_getElem? hg)
        obtain ⟨k0, t0, q0, n0, o0⟩ := x
        rw [Jo.fits] at hx
        rw [Jo.dep] at hk
        have e1 := r_depths q0 hx.1.1 fun a ha => hq a (hxq a ha) (smsFits_get _ hx.1.2 a ha)
        have e2 := r_deepest o0 hx.2.1 hx.2.2
        have hgi : ∀ h, js[i]'h = _ := fun h => (List.getElem?_eq_some_iff.1 hg).2
        simp [Sm.a, Sm.c, smsC_map, josC_map, hlt, hlt', hg, hgi, Jo.c]
        refine ⟨.of (by kernel_rfl), ?_⟩
        refine acallT_plain e1 (by simp) ?_
        simp [smsC_map, josC_map, hlt, hlt', hg, hgi, Jo.c]
        refine acallT_plain e2 (by simp) ?_
        simp
        refine ⟨.of (by kernel_rfl), .of (by kernel_rfl), i + 1, hlt, ?_, ?_⟩
        · refine sub_mk _ [(1, 1, _)] ⟨by simp, by simp, by simp [renOf, Blk.live, Sm.a, Sm.c, smsC_map, josC_map], by simp⟩ ?_
          simp [renOf]
          refine ⟨?_, wrap_in (by omega) (by omega)⟩
          try simp at hk
          rw [hk]
          simp only [mxi]
          omega
        · simp; omega
      · have hlt' : ¬ (i : Int) < js.length := by omega
        have hall := most_all (l := js.map Jo.dep) (i := i) (by simp; omega)
        simp [Sm.a, Sm.c, smsC_map, josC_map, hlt, hlt', hall, up1]
        exact ⟨.of (by kernel_rfl), .of (by kernel_rfl)⟩
end Go.Proofs.Tryd
/- Valid terms and statements: the reference's conditions. -/
namespace Go.Proofs.Tryd
open Go.Ab
set_option maxRecDepth 100000
set_option maxHeartbeats 2000000

theorem all_drop {α : Type} {p : α → Bool} {l : List α} {i : Nat} {x : α} (h : l[i]? = some x) : (l.drop i).all p = (p x && (l.drop (i + 1)).all p) := by
  obtain ⟨hi, rfl⟩ := List.getElem?_eq_some_iff.1 h
  rw [List.drop_eq_getElem_cons hi, List.all_cons]
theorem all_end {α : Type} {p : α → Bool} {l : List α} {i : Nat} (h : l.length ≤ i) : (l.drop i).all p = true := by rw [List.drop_eq_nil_of_le h]; rfl
theorem r_rights (l : List Tm) (hl : l.length ≤ 9223372036854775807) (h : ∀ x ∈ l, Cf Es 40 [x.a] [] (.d (.bool x.right)) []) :
    Cf Es 82 [.d (.sl (l.map Tm.c))] [] (.d (.bool (l.all Tm.right))) [] := by
  refine cf_intro mixs (fn := Tryd.f82) (by kernel_rfl) rfl (by kernel_rfl) (by decide) (by simp) ?_
  generalize hR : l.all Tm.right = R
  simp
  (repeat refine ⟨.of (by kernel_rfl), ?_⟩)
  refine aloopT mixs (by decide) (fun i : Nat => { s := mkS [(0, .d (.sl (l.map Tm.c))), (3, .d (.int .i64 i))], b := mkB [] }) (fun i : Nat => i ≤ l.length ∧ (l.drop i).all Tm.right = R) (fun i => l.length - i) 0 (by simp [hR]) (sub_mk _ [] .nil (by simp)) ?_
  rintro i ⟨hi, ho⟩
  by_cases hlt : i < l.length
  · have hlt' : (i : Int) < l.length := by omega
    obtain ⟨x, hg⟩ : ∃ x, l[i]? = some x := ⟨_, List.getElem?_eq_getElem hlt⟩
    have hgi : ∀ h, l[i]'h = x := fun h => (List.getElem?_eq_some_iff.1 hg).2
    have hx := h x (List.mem_of_getElem? hg)
    rw [all_drop hg] at ho
    have c1 := x.clen
    have k1 := x.ctake
    generalize x.right = X at *
    simp [hlt, hlt', hg, hgi, c1, k1]
    (repeat refine ⟨.of (by kernel_rfl), ?_⟩)
    refine acallT_plain hx (by simp [Tm.a]) ?_
    simp
    refine ⟨.of (by kernel_rfl), fun h => ⟨.of (by kernel_rfl), ?_⟩, fun h => ⟨.of (by kernel_rfl), i + 1, ⟨hlt, ?_⟩, sub_mk _ [] .nil ?_, ?_⟩⟩
    · rw [← ho, h]; rfl
    · rw [← ho, h]; rfl
    · simp; exact wrap_in (by omega) (by omega)
    · simp; omega
  · have hlt' : ¬ (i : Int) < l.length := by omega
    rw [all_end (by omega)] at ho
    simp [hlt, hlt']
    (repeat refine ⟨.of (by kernel_rfl), ?_⟩)
    exact ho.symm
theorem r_right : ∀ (m : Nat) (x : Tm), SizeOf.sizeOf x < m → x.fits → Cf Es 40 [x.a] [] (.d (.bool x.right)) []
  | 0, _, h, _ => absurd h (by omega)
  | m + 1, .mk o y n t q ks, hm, hfit => by
    refine cf_intro mixs (fn := Tryd.f40) (by kernel_rfl) rfl (by kernel_rfl) (by decide) (by simp) ?_
    rw [Tm.fits] at hfit
    have h1 := r_plain o y n t q ks ks.length
    have h2 := r_rights ks hfit.1 fun x hx => r_right m x (by
      have := Tm.kid_lt (e := .mk o y n t q ks) (k := x) hx
      omega) (tmsFits_get ks hfit.2 x hx)
    rw [Tm.right, tmsRight_all]
    generalize hK : ks.all Tm.right = K at *
    generalize hO : okK o y n t q ks.length = O at *
    simp [Tm.a, Tm.c, tmsC_map]
    (repeat refine ⟨.of (by kernel_rfl), ?_⟩)
    refine acallT_plain h1 (by simp [Tm.a, Tm.c, tmsC_map]) ?_
    simp [tmsC_map]
    (repeat' (first | contradiction | exact .of (by kernel_rfl) | refine And.intro ?_ ?_ | intro _ | (refine agrd_cases (fun h => ?_) (fun h => ?_) <;> (have h' := h; (try simp at h'); first | done | simp [h, h', tmsC_map] | simp [tmsC_map]))))
    all_goals first | (refine acallT_plain h2 (by simp) ?_; simp; (repeat' (first | contradiction | exact .of (by kernel_rfl) | refine And.intro ?_ ?_ | intro _ | (refine agrd_cases (fun h => ?_) (fun h => ?_) <;> (have h' := h; (try simp at h'); first | done | simp [h, h'] | simp))))) | skip
    all_goals simp_all
theorem r_rightsF (l : List Tm) (hl : l.length ≤ 9223372036854775807) (hf : tmsFits l) : Cf Es 82 [.d (.sl (l.map Tm.c))] [] (.d (.bool (l.all Tm.right))) [] :=
  r_rights l hl fun x hx => r_right _ x (Nat.lt_succ_self _) (tmsFits_get _ hf x hx)
theorem r_validTerm (x : Tm) (hf : x.fits) : Cf Es 12 [x.a] [] (.d (.bool (decide (x.dep ≤ 24) && x.right))) [] := by
  refine cf_intro mixs (fn := Tryd.f12) (by kernel_rfl) rfl (by kernel_rfl) (by decide) (by simp) ?_
  have h1 := r_right _ x (Nat.lt_succ_self _) hf
  have h2 := ups (r_termDepth _ x (Nat.lt_succ_self _) hf)
  have c1 := x.clen
  have k1 := x.ctake
  simp [Tm.a, c1, k1]
  (repeat refine ⟨.of (by kernel_rfl), ?_⟩)
  refine acallT_plain h1 (by simp [Tm.a]) ?_
  simp [c1, k1]
  (repeat' (first | contradiction | exact .of (by kernel_rfl) | refine And.intro ?_ ?_ | intro _ | (refine agrd_cases (fun h => ?_) (fun h => ?_) <;> (have h' := h; (try simp at h'); first | done | simp [h, h', c1, k1] | simp [c1, k1]))))
  all_goals first | (refine acallT_plain h2 (by simp [Tm.a]) ?_; simp; (repeat' (first | contradiction | exact .of (by kernel_rfl) | refine And.intro ?_ ?_ | intro _ | (refine agrd_cases (fun h => ?_) (fun h => ?_) <;> (have h' := h; (try simp at h'); first | done | simp [h, h'] | simp))))) | skip
  all_goals simp_all
theorem r_sourceOk (t : List UInt8) (q : List Sm) (n : List UInt8) (h : ∀ x ∈ q, Cf Es 36 [x.a] [] (.d (.bool x.right)) []) :
    Cf Es 81 [soA t q n] [] (.d (.bool (soRight t q n))) [] := by
  refine cf_intro mixs (fn := Tryd.f81) (by kernel_rfl) rfl (by kernel_rfl) (by decide) (by simp) ?_
  have h1 := r_name t
  have h3 := r_name n
  unfold soRight nameOr
  match q, h with
  | [], _ =>
    simp [soA, soC, smsC]
    (repeat refine ⟨.of (by kernel_rfl), ?_⟩)
    refine acallT_plain h1 (by simp) ?_
    simp
    (repeat' (first | contradiction | exact .of (by kernel_rfl) | refine And.intro ?_ ?_ | intro _ | (refine agrd_cases (fun h => ?_) (fun h => ?_) <;> (have h' := h; (try simp at h'); first | done | simp [h, h'] | simp))))
    all_goals first | (refine acallT_plain h3 (by simp) ?_; simp; (repeat' (first | contradiction | exact .of (by kernel_rfl) | refine And.intro ?_ ?_ | intro _ | (refine agrd_cases (fun h => ?_) (fun h => ?_) <;> (have h' := h; (try simp at h'); first | done | simp [h, h'] | simp))))) | skip
    all_goals simp_all
  | [x], h =>
    have h4 := h x List.mem_cons_self
    have c1 := x.clen
    have k1 := x.ctake
    rw [smsRight, smsRight]
    generalize hR : x.right = R at *
    simp [soA, soC, smsC, c1, k1]
    (repeat' (first | contradiction | exact .of (by kernel_rfl) | refine And.intro ?_ ?_ | intro _ | (refine agrd_cases (fun h => ?_) (fun h => ?_) <;> (have h' := h; (try simp at h'); first | done | simp [h, h', c1, k1] | simp [c1, k1]))))
    all_goals first | (refine acallT_plain h3 (by simp) ?_; simp [c1, k1]; (repeat' (first | contradiction | exact .of (by kernel_rfl) | refine And.intro ?_ ?_ | intro _ | (refine agrd_cases (fun h => ?_) (fun h => ?_) <;> (have h' := h; (try simp at h'); first | done | simp [h, h', c1, k1] | simp [c1, k1]))))) | skip
    all_goals first | (refine acallT_plain h4 (by simp [Sm.a]) ?_; simp; (repeat' (first | contradiction | exact .of (by kernel_rfl) | refine And.intro ?_ ?_ | intro _ | (refine agrd_cases (fun h => ?_) (fun h => ?_) <;> (have h' := h; (try simp at h'); first | done | simp [h, h'] | simp))))) | skip
    all_goals simp_all
  | x :: y :: l, _ =>
    have hl : ¬ (l.length : Int) + 1 + 1 = 0 := by omega
    have hl1 : ((l.length : Int) + 1 + 1 == 1) = false := by simp; omega
    have hl0 : ((l.length : Int) + 1 + 1 == 0) = false := by simp; omega
    simp [soA, soC, smsC, smsC_map, hl, hl1, hl0]
    (repeat' (first | contradiction | exact .of (by kernel_rfl) | refine And.intro ?_ ?_ | intro _ | (refine agrd_cases (fun h => ?_) (fun h => ?_) <;> (have h' := h; (try simp at h'); first | done | simp [h, h', hl, hl1, hl0] | simp [hl, hl1, hl0]))))
end Go.Proofs.Tryd
/- slices.Grow and slices.Concat of terms. -/
namespace Go.Proofs.Tryd
open Go.Ab
set_option maxHeartbeats 1000000

def noTm : List D := [.int .i64 0, .int .i64 0, .int .i64 0, .str [], .str [], .sl []]
theorem s_grow (n : Nat) (h0 : 0 < n) (hn : n ≤ 1000) : Cf En 105 [.nils, .d (.int .i64 n)] [] (.ref firstName 0 0 6) [.arr 31 6 (List.replicate n noTm) false] := by
  refine cf_intro mix (fn := Tryd.f105) (by kernel_rfl) rfl (by kernel_rfl) (by decide) (by simp) ?_
  have h1 : ¬ (n : Int) < 0 := by omega
  have hw0 : IntKind.i64.wrap 0 = 0 := by decide
  have hw : IntKind.i64.wrap n = n := wrap_in (by omega) (by omega)
  have h3 : (n : Int) ≤ 9223372036854775807 := by omega
  have h4 : (80 : Int) * n ≤ 281474976710656 := by omega
  simp [h1, h0, hw0, hw, h3, h4]
  refine ⟨.of (by kernel_rfl), .of (by kernel_rfl), .of (by kernel_rfl), .of (by kernel_rfl), ?_⟩
  refine ⟨.of (by kernel_rfl), .of (by kernel_rfl), ?_⟩
  refine ⟨_, [(firstName, 22, .arr 31 6 (List.replicate n noTm) false)], by simp; rfl, ⟨by simp, by simp, ?_, by simp⟩, by simp, ?_⟩
  · intro p hp
    simp only [List.mem_cons, List.not_mem_nil, or_false] at hp
    rcases hp with rfl
    simp [Blk.live, noTm]
  · simp [renOf]
theorem s_grow0 : Cf En 105 [.nils, .d (.int .i64 0)] [] .nils [] := by
  refine cf_introN mix (fn := Tryd.f105) (by kernel_rfl) rfl (by kernel_rfl) (by decide) (by simp) ?_
  have hw0 : IntKind.i64.wrap 0 = 0 := by decide
  simp [hw0]
  (repeat' (first | contradiction | exact .of (by kernel_rfl) | refine And.intro ?_ ?_ | intro _ | (refine agrd_cases (fun h => ?_) (fun h => ?_) <;> (have h' := h; (try simp at h'); first | done | simp [h, h', hw0] | simp [hw0]))))


theorem s_concat (W G H : List Tm) (hw : W.length ≤ 20) (hg : G.length ≤ 20) (hh : H.length ≤ 20) :
    Cf En 71 [.d (.sl [[.sl (W.map Tm.c)], [.sl (G.map Tm.c)], [.sl (H.map Tm.c)]])] [] (.ref firstName 0 (W.length + G.length + H.length) 6) [.arr 31 6 ((W ++ G ++ H).map Tm.c) false] := by
  refine cf_intro mix (fn := Tryd.f71) (by kernel_rfl) rfl (by kernel_rfl) (by decide) (by simp) ?_
  simp
  refine ⟨.of (by kernel_rfl), .of (by kernel_rfl), .of (by kernel_rfl), ?_⟩
  have w1 : IntKind.i64.wrap (W.length : Int) = W.length := wrap_in (by omega) (by omega)
  have w2 : IntKind.i64.wrap ((W.length : Int) + G.length) = W.length + G.length := wrap_in (by omega) (by omega)
  have w3 : IntKind.i64.wrap ((W.length : Int) + G.length + H.length) = W.length + G.length + H.length := wrap_in (by omega) (by omega)
  have w3' : IntKind.i64.wrap ((W.length : Int) + (G.length + H.length)) = W.length + (G.length + H.length) := wrap_in (by omega) (by omega)
  have p1 : ¬ (W.length : Int) < 0 := by omega
  have p2 : ¬ (W.length : Int) + G.length < 0 := by omega
  have p3 : ¬ (W.length : Int) + G.length + H.length < 0 := by omega
  have p3' : ¬ (W.length : Int) + (G.length + H.length) < 0 := by omega
  have d1 : IntKind.i64.wrap 1 = 1 := by decide
  have d2 : IntKind.i64.wrap 2 = 2 := by decide
  have d3 : IntKind.i64.wrap 3 = 3 := by decide
  refine aloopT mix (by decide) (fun i : Nat => { s := mkS [(0, .d (.sl [[.sl (W.map Tm.c)], [.sl (G.map Tm.c)], [.sl (H.map Tm.c)]])), (3, .d (.int .i64 ((([W, G, H].take i).map List.length).sum : Nat))), (9, .d (.sl [[.sl (W.map Tm.c)], [.sl (G.map Tm.c)], [.sl (H.map Tm.c)]])), (10, .d (.int .i64 3)), (11, .d (.int .i64 i))], b := mkB [] }) (fun i : Nat => i ≤ 3) (fun i => 3 - i) 0 (by simp) (sub_mk _ [] .nil (by simp)) ?_
  rintro i hi
  by_cases hlt : i < 3
  · have hi3 : i = 0 ∨ i = 1 ∨ i = 2 := by omega
    rcases hi3 with rfl | rfl | rfl
    · simp [w1, p1]
      refine ⟨.of (by kernel_rfl), .of (by kernel_rfl), .of (by kernel_rfl), .of (by kernel_rfl), .of (by kernel_rfl), 1, by omega, sub_mk _ [] .nil (by simp; decide), by decide⟩
    · simp [w2, p2]
      refine ⟨.of (by kernel_rfl), .of (by kernel_rfl), .of (by kernel_rfl), .of (by kernel_rfl), .of (by kernel_rfl), 2, by omega, sub_mk _ [] .nil (by simp; decide), by decide⟩
    · simp [w3, p3, w3', p3', Int.add_assoc]
      refine ⟨.of (by kernel_rfl), .of (by kernel_rfl), .of (by kernel_rfl), .of (by kernel_rfl), .of (by kernel_rfl), 3, by omega, sub_mk _ [] .nil (by simp; decide), by decide⟩
  · obtain rfl : i = 3 := by omega
    simp
    obtain ⟨n, hn⟩ : ∃ n : Nat, n = W.length + G.length + H.length := ⟨_, rfl⟩
    have hn' : (W.length : Int) + (G.length + H.length) = (n : Int) := by omega
    rw [hn']
    have L6 : ∀ l : List Tm, ((l.map Tm.c).all fun x => x.length == 6) = true := fun l => by
      rw [List.all_eq_true]
      intro x hx
      obtain ⟨t, _, rfl⟩ := List.mem_map.1 hx
      simp [Tm.clen]
    have L6' : ∀ (l : List Tm) (a : Tm), a ∈ l → a.c.length = 6 := fun _ a _ => a.clen
    have b1 : W.length * 80 ≤ 140737488355328 := by omega
    have b2 : (W.length + G.length) * 80 ≤ 140737488355328 := by omega
    have b3 : (W.length + (G.length + H.length)) * 80 ≤ 140737488355328 := by omega
    have m1 : W.length ≤ 9223372036854775807 := by omega
    have m2 : W.length + G.length ≤ 9223372036854775807 := by omega
    have m3 : W.length + (G.length + H.length) ≤ 9223372036854775807 := by omega
    refine ⟨.of (by kernel_rfl), ?_⟩
    have q1 : (W.map Tm.c).length = W.length := by simp
    by_cases h0 : n = 0
    · have e1 : W = [] := List.eq_nil_of_length_eq_zero (by omega)
      have e2 : G = [] := List.eq_nil_of_length_eq_zero (by omega)
      have e3 : H = [] := List.eq_nil_of_length_eq_zero (by omega)
      subst e1 e2 e3
      subst h0
      refine acallT_plainN s_grow0 (by simp) ?_
      simp
      refine ⟨.of (by kernel_rfl), .of (by kernel_rfl), ?_⟩
      refine aloopT mix (by decide) (fun i : Nat => { s := mkS [(0, .d (.sl [[.sl []], [.sl []], [.sl []]])), (6, if i = 0 then .nils else .ref 6 0 0 6), (25, .d (.sl [[.sl []], [.sl []], [.sl []]])), (26, .d (.int .i64 3)), (27, .d (.int .i64 i))], b := mkB (if i = 0 then [] else [(6, 6, .arr 31 6 [] false)]) }) (fun i : Nat => i ≤ 3) (fun i => 3 - i) 0 (by simp) (sub_mk _ [] .nil (by simp)) ?_
      clear hlt hi
      rintro i hi
      by_cases hlt : i < 3
      · have hi3 : i = 0 ∨ i = 1 ∨ i = 2 := by omega
        rcases hi3 with rfl | rfl | rfl
        · simp
          refine ⟨.of (by kernel_rfl), .of (by kernel_rfl), .of (by kernel_rfl), .of (by kernel_rfl), 1, by omega, sub_mk _ [(6, 33, _)] ⟨by simp, by simp, by simp [renOf, Blk.live], by simp⟩ (by simp [renOf]; decide), by decide⟩
        · simp
          refine ⟨.of (by kernel_rfl), .of (by kernel_rfl), .of (by kernel_rfl), .of (by kernel_rfl), 2, by omega, sub_mk _ [(6, 33, _)] ⟨by simp, by simp, by simp [renOf, Blk.live], by simp⟩ (by simp [renOf]; decide), by decide⟩
        · simp
          refine ⟨.of (by kernel_rfl), .of (by kernel_rfl), .of (by kernel_rfl), .of (by kernel_rfl), 3, by omega, sub_mk _ [(6, 33, _)] ⟨by simp, by simp, by simp [renOf, Blk.live], by simp⟩ (by simp [renOf]; decide), by decide⟩
      · obtain rfl : i = 3 := by omega
        simp
        refine ⟨.of (by kernel_rfl), .of (by kernel_rfl), ?_⟩
        refine ⟨_, [(firstName, 6, .arr 31 6 [] false)], by simp; rfl, ⟨by simp, by simp, ?_, by simp⟩, by simp, ?_⟩
        · intro p hp
          simp only [List.mem_cons, List.not_mem_nil, or_false] at hp
          rcases hp with rfl
          simp [Blk.live]
        · simp [renOf]
    · refine acallT_newN [] (s_grow n (by omega) (by omega)) (by simp) (by simp) (by simp) (by decide) (by simp) (by simp) (by simp) ?_
      have h0' : ¬ 0 = n := fun e => h0 e.symm
      simp
      refine ⟨.of (by kernel_rfl), .of (by kernel_rfl), ?_⟩
      refine aloopT mix (by decide) (fun i : Nat => { s := mkS [(0, .d (.sl [[.sl (W.map Tm.c)], [.sl (G.map Tm.c)], [.sl (H.map Tm.c)]])), (6, .ref 6 0 ((([W, G, H].take i).map List.length).sum) 6), (25, .d (.sl [[.sl (W.map Tm.c)], [.sl (G.map Tm.c)], [.sl (H.map Tm.c)]])), (26, .d (.int .i64 3)), (27, .d (.int .i64 i))], b := mkB [(6, 6, .arr 31 6 (if i = 0 then List.replicate n noTm else ([W, G, H].take i).flatten.map Tm.c) false)] }) (fun i : Nat => i ≤ 3) (fun i => 3 - i) 0 (by simp) (sub_mk _ [(6, 25000, _)] ⟨by simp, by simp, by simp [renOf, Blk.live], by simp⟩ (by simp [renOf])) ?_
      clear hlt hi
      rintro i hi
      by_cases hlt : i < 3
      · have hi3 : i = 0 ∨ i = 1 ∨ i = 2 := by omega
        rcases hi3 with rfl | rfl | rfl
        · simp [L6, L6', b1, m1, h0, h0']
          refine ⟨.of (by kernel_rfl), .of (by kernel_rfl), .of (by kernel_rfl), .of (by kernel_rfl), 1, by omega, sub_mk _ [(6, 33, _)] ⟨by simp, by simp, by simp [renOf, Blk.live], by simp⟩ (by simp [renOf]; decide), by decide⟩
        · simp [L6, L6', b2, m2, h0, h0']
          refine ⟨.of (by kernel_rfl), .of (by kernel_rfl), .of (by kernel_rfl), .of (by kernel_rfl), 2, by omega, sub_mk _ [(6, 33, _)] ⟨by simp, by simp, by simp [renOf, Blk.live], by simp⟩ (by simp [renOf]; decide), by decide⟩
        · simp [L6, L6', b3, m3, h0, h0', Nat.add_assoc]
          refine ⟨.of (by kernel_rfl), .of (by kernel_rfl), .of (by kernel_rfl), .of (by kernel_rfl), 3, by omega, sub_mk _ [(6, 33, _)] ⟨by simp, by simp, by simp [renOf, Blk.live, Nat.add_assoc], by simp⟩ (by simp [renOf, Nat.add_assoc]; decide), by decide⟩
      · obtain rfl : i = 3 := by omega
        simp
        refine ⟨.of (by kernel_rfl), .of (by kernel_rfl), ?_⟩
        refine ⟨_, [(firstName, 6, .arr 31 6 ((W ++ G ++ H).map Tm.c) false)], by simp; rfl, ⟨by simp, by simp, ?_, by simp⟩, by simp, ?_⟩
        · intro p hp
          simp only [List.mem_cons, List.not_mem_nil, or_false] at hp
          rcases hp with rfl
          simp [Blk.live]
        · simp [renOf, Nat.add_assoc]
end Go.Proofs.Tryd
