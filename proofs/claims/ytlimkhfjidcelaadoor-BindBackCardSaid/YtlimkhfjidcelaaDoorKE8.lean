import Derived.Test.YtlimkhfjidcelaaDoorKE2
import Derived.Test.YtlimkhfjidcelaaDoorKE7
import Derived.Test.YtlimkhfjidcelaaDoorKE1
import Derived.Test.YtlimkhfjidcelaaDoorKE4
import Derived.Test.YtlimkhfjidcelaaDoorKE5
import Derived.Test.YtlimkhfjidcelaaDoorTyr
set_option linter.all false
/- A term's own fields: the program's conditions; valid terms. -/
namespace Go.Proofs.Tryd
open Go.Ab
set_option maxRecDepth 100000
set_option maxHeartbeats 2000000

theorem okS_rest (o y n : Int) (t q : List UInt8) : okS o y n t q =
    ((if o = 1 then decide (1 ≤ y) && decide (y ≤ 3) else if o = 2 then (V.mk 1 n []).valid else if o = 3 then n == 0 || n == 1 else if o = 4 then (V.mk 3 0 t).valid else if o = 40 then nameOk words t && (q == [] || nameOk words q) else if o = 41 then decide (1 ≤ n) && decide (n ≤ 6) else true)
      && (Tm.mk 0 (if o = 1 then 0 else y) (if o = 2 ∨ o = 3 ∨ o = 41 then 0 else n) (if o = 4 ∨ o = 40 then [] else t) (if o = 40 then [] else q) []).eq (.mk 0 0 0 [] [] [])) := by
  unfold okS
  rw [Tm.eq, tmsEq]
  by_cases h1 : o = 1
  · subst h1; simp
  by_cases h2 : o = 2
  · subst h2; simp
  by_cases h3 : o = 3
  · subst h3; simp
  by_cases h4 : o = 4
  · subst h4; simp
  by_cases h40 : o = 40
  · subst h40; simp
  by_cases h41 : o = 41
  · subst h41; simp
  simp [h1, h2, h3, h4, h40, h41]
theorem fits0 (o y n : Int) (t q : List UInt8) : (Tm.mk o y n t q []).fits := by rw [Tm.fits, tmsFits]; simp
theorem s_formed : ∀ (m : Nat) (x : Tm), SizeOf.sizeOf x < m → x.fits → Cf Es 39 [x.a] [] (.d (.bool x.right)) []
  | 0, _, h, _ => absurd h (by omega)
  | m + 1, .mk o y n t q ks, hm, hfit => by
    refine cf_intro mixs (fn := Tryd.f39) (by kernel_rfl) rfl (by kernel_rfl) (by decide) (by simp) ?_
    rw [Tm.fits] at hfit
    have hall := all_T 39 Tm.right ks hfit.1 fun x hx => s_formed m x (by
      have := Tm.kid_lt (e := .mk o y n t q ks) (k := x) hx
      omega) (tmsFits_get ks hfit.2 x hx)
    have hcn := s_counted o y n t q ks
    have hv1 := ups (v_valid ⟨1, n, []⟩)
    have hv3 := ups (v_valid ⟨3, 0, t⟩)
    have hn1 := s_name t
    have hn2 := s_name q
    have hsame := fun (y n : Int) (t q : List UInt8) => ups (s_sameTerm _ (.mk 0 y n t q []) (.mk 0 0 0 [] [] []) (Nat.lt_succ_self _) (fits0 0 y n t q))
    rw [Tm.right, okK_eq, tmsRight_all, okS_rest]
    generalize hC : cntOk o n ks.length = C at *
    generalize hK : ks.all Tm.right = K at *
    simp [Tm.a, Tm.c, tmsC_map]
    refine ⟨.of (by kernel_rfl), ?_⟩
    refine acallT_plain hcn (by simp [Tm.a, Tm.c, tmsC_map]) ?_
    simp
    refine agrd_cases (fun h => ?_) (fun h => ?_)
    · obtain rfl : C = true := by simpa using h
      simp
      refine acallT_plain hall (by simp) ?_
      cases K with
      | false =>
        simp
        (repeat' (first | contradiction | exact .of (by kernel_rfl) | refine And.intro ?_ ?_ | intro _ | (refine agrd_cases (fun h => ?_) (fun h => ?_) <;> (have h' := h; (try simp at h'); first | done | simp [h, h'] | simp))))
      | true =>
        clear hall hcn hC hK hm hfit
        simp [Tm.c, tmsC_map]
        refine ⟨.of (by kernel_rfl), .of (by kernel_rfl), .of (by kernel_rfl), .of (by kernel_rfl), ?_⟩
        by_cases h1 : o = 1
        · subst h1
          simp [Tm.c, tmsC_map]
          (repeat' (first | contradiction | exact .of (by kernel_rfl) | refine And.intro ?_ ?_ | intro _ | (refine agrd_cases (fun h => ?_) (fun h => ?_) <;> (have h' := h; (try simp at h'); first | done | simp [h, h', Tm.c, tmsC_map] | simp [Tm.c, tmsC_map]))))
          all_goals first | done | (refine acallT_plain (hsame 0 n t q) (by simp [Tm.a, Tm.c, tmsC_map]) ?_; simp; (repeat' (first | contradiction | exact .of (by kernel_rfl) | refine And.intro ?_ ?_ | intro _ | (refine agrd_cases (fun h => ?_) (fun h => ?_) <;> (have h' := h; (try simp at h'); first | done | simp [h, h'] | simp))))) | skip
          all_goals first | done | (simp_all; done) | (simp_all; omega)
        by_cases h2 : o = 2
        · subst h2
          simp [Tm.c, tmsC_map]
          (repeat' (first | contradiction | exact .of (by kernel_rfl) | refine And.intro ?_ ?_ | intro _ | (refine agrd_cases (fun h => ?_) (fun h => ?_) <;> (have h' := h; (try simp at h'); first | done | simp [h, h', Tm.c, tmsC_map] | simp [Tm.c, tmsC_map]))))
          all_goals first | (refine acallT_plain hv1 (by simp [V.a]) ?_; simp [Tm.c, tmsC_map]; (repeat' (first | contradiction | exact .of (by kernel_rfl) | refine And.intro ?_ ?_ | intro _ | (refine agrd_cases (fun h => ?_) (fun h => ?_) <;> (have h' := h; (try simp at h'); first | done | simp [h, h', Tm.c, tmsC_map] | simp [Tm.c, tmsC_map]))))) | skip
          all_goals first | done | (refine acallT_plain (hsame y 0 t q) (by simp [Tm.a, Tm.c, tmsC_map]) ?_; simp; (repeat' (first | contradiction | exact .of (by kernel_rfl) | refine And.intro ?_ ?_ | intro _ | (refine agrd_cases (fun h => ?_) (fun h => ?_) <;> (have h' := h; (try simp at h'); first | done | simp [h, h'] | simp))))) | skip
          all_goals first | done | (simp_all; done) | (simp_all; omega)
        by_cases h3 : o = 3
        · subst h3
          simp [Tm.c, tmsC_map]
          (repeat' (first | contradiction | exact .of (by kernel_rfl) | refine And.intro ?_ ?_ | intro _ | (refine agrd_cases (fun h => ?_) (fun h => ?_) <;> (have h' := h; (try simp at h'); first | done | simp [h, h', Tm.c, tmsC_map] | simp [Tm.c, tmsC_map]))))
          all_goals first | done | (refine acallT_plain (hsame y 0 t q) (by simp [Tm.a, Tm.c, tmsC_map]) ?_; simp; (repeat' (first | contradiction | exact .of (by kernel_rfl) | refine And.intro ?_ ?_ | intro _ | (refine agrd_cases (fun h => ?_) (fun h => ?_) <;> (have h' := h; (try simp at h'); first | done | simp [h, h'] | simp))))) | skip
          all_goals first | done | (simp_all; done) | (simp_all; omega)
        by_cases h4 : o = 4
        · subst h4
          simp [Tm.c, tmsC_map]
          (repeat' (first | contradiction | exact .of (by kernel_rfl) | refine And.intro ?_ ?_ | intro _ | (refine agrd_cases (fun h => ?_) (fun h => ?_) <;> (have h' := h; (try simp at h'); first | done | simp [h, h', Tm.c, tmsC_map] | simp [Tm.c, tmsC_map]))))
          all_goals first | (refine acallT_plain hv3 (by simp [V.a]) ?_; simp [Tm.c, tmsC_map]; (repeat' (first | contradiction | exact .of (by kernel_rfl) | refine And.intro ?_ ?_ | intro _ | (refine agrd_cases (fun h => ?_) (fun h => ?_) <;> (have h' := h; (try simp at h'); first | done | simp [h, h', Tm.c, tmsC_map] | simp [Tm.c, tmsC_map]))))) | skip
          all_goals first | done | (refine acallT_plain (hsame y n [] q) (by simp [Tm.a, Tm.c, tmsC_map]) ?_; simp; (repeat' (first | contradiction | exact .of (by kernel_rfl) | refine And.intro ?_ ?_ | intro _ | (refine agrd_cases (fun h => ?_) (fun h => ?_) <;> (have h' := h; (try simp at h'); first | done | simp [h, h'] | simp))))) | skip
          all_goals first | done | (simp_all; done) | (simp_all; omega)
        by_cases h40 : o = 40
        · subst h40
          simp [Tm.c, tmsC_map]
          (repeat' (first | contradiction | exact .of (by kernel_rfl) | refine And.intro ?_ ?_ | intro _ | (refine agrd_cases (fun h => ?_) (fun h => ?_) <;> (have h' := h; (try simp at h'); first | done | simp [h, h', Tm.c, tmsC_map] | simp [Tm.c, tmsC_map]))))
          all_goals first | (refine acallT_plain hn1 (by simp [V.a]) ?_; simp [Tm.c, tmsC_map]; (repeat' (first | contradiction | exact .of (by kernel_rfl) | refine And.intro ?_ ?_ | intro _ | (refine agrd_cases (fun h => ?_) (fun h => ?_) <;> (have h' := h; (try simp at h'); first | done | simp [h, h', Tm.c, tmsC_map] | simp [Tm.c, tmsC_map]))))) | skip
          all_goals first | (refine acallT_plain hn2 (by simp [V.a]) ?_; simp [Tm.c, tmsC_map]; (repeat' (first | contradiction | exact .of (by kernel_rfl) | refine And.intro ?_ ?_ | intro _ | (refine agrd_cases (fun h => ?_) (fun h => ?_) <;> (have h' := h; (try simp at h'); first | done | simp [h, h', Tm.c, tmsC_map] | simp [Tm.c, tmsC_map]))))) | skip
          all_goals first | done | (refine acallT_plain (hsame y n [] []) (by simp [Tm.a, Tm.c, tmsC_map]) ?_; simp; (repeat' (first | contradiction | exact .of (by kernel_rfl) | refine And.intro ?_ ?_ | intro _ | (refine agrd_cases (fun h => ?_) (fun h => ?_) <;> (have h' := h; (try simp at h'); first | done | simp [h, h'] | simp))))) | skip
          all_goals first | done | (simp_all; done) | (simp_all; omega)
        by_cases h41 : o = 41
        · subst h41
          simp [Tm.c, tmsC_map]
          (repeat' (first | contradiction | exact .of (by kernel_rfl) | refine And.intro ?_ ?_ | intro _ | (refine agrd_cases (fun h => ?_) (fun h => ?_) <;> (have h' := h; (try simp at h'); first | done | simp [h, h', Tm.c, tmsC_map] | simp [Tm.c, tmsC_map]))))
          all_goals first | done | (refine acallT_plain (hsame y 0 t q) (by simp [Tm.a, Tm.c, tmsC_map]) ?_; simp; (repeat' (first | contradiction | exact .of (by kernel_rfl) | refine And.intro ?_ ?_ | intro _ | (refine agrd_cases (fun h => ?_) (fun h => ?_) <;> (have h' := h; (try simp at h'); first | done | simp [h, h'] | simp))))) | skip
          all_goals first | done | (simp_all; done) | (simp_all; omega)
        simp [h1, h2, h3, h4, h40, h41, Tm.c, tmsC_map]
        (repeat' (first | contradiction | exact .of (by kernel_rfl) | refine And.intro ?_ ?_ | intro _ | (refine agrd_cases (fun h => ?_) (fun h => ?_) <;> (have h' := h; (try simp at h'); first | done | simp [h, h', h1, h2, h3, h4, h40, h41, Tm.c, tmsC_map] | simp [h1, h2, h3, h4, h40, h41, Tm.c, tmsC_map]))))
        all_goals first | done | (refine acallT_plain (hsame y n t q) (by simp [Tm.a, Tm.c, tmsC_map]) ?_; simp; (repeat' (first | contradiction | exact .of (by kernel_rfl) | refine And.intro ?_ ?_ | intro _ | (refine agrd_cases (fun h => ?_) (fun h => ?_) <;> (have h' := h; (try simp at h'); first | done | simp [h, h'] | simp))))) | skip
        all_goals first | done | (simp_all; done) | (simp_all; omega)
    · obtain rfl : C = false := by simpa using h
      simp
      (repeat' (first | contradiction | exact .of (by kernel_rfl) | refine And.intro ?_ ?_ | intro _ | (refine agrd_cases (fun h => ?_) (fun h => ?_) <;> (have h' := h; (try simp at h'); first | done | simp [h, h'] | simp))))
end Go.Proofs.Tryd
/- Statements: the program's Same. -/
namespace Go.Proofs.Tryd
open Go.Ab
set_option maxHeartbeats 1000000

theorem s_same : ∀ (m : Nat) (x y : Sm), SizeOf.sizeOf x < m → x.fits → Cf En 13 [x.a, y.a] [] (.d (.bool (x.eq y))) []
  | 0, _, _, h, _ => absurd h (by omega)
  | m + 1, x, y, hm, hfit => by
    refine cf_intro mix (fn := Tryd.f13) (by kernel_rfl) rfl (by kernel_rfl) (by decide) (by simp) ?_
    have hq := fun (a : Sm) (ha : SizeOf.sizeOf a < m) (fa : a.fits) (b : Sm) => s_same m a b ha fa
    obtain ⟨f, al, d, s, is, ft, fq, fn, js, w, g, h, ks⟩ := x
    obtain ⟨f', a', d', s', is', ft', fq', fn', js', w', g', h', ks'⟩ := y
    have hfq : ∀ a ∈ fq, SizeOf.sizeOf a < m := fun a ha => by
      have := Sm.q_lt (e := .mk f al d s is ft fq fn js w g h ks) ha
      omega
    have hks : ∀ a ∈ ks, SizeOf.sizeOf a < m := fun a ha => by
      have := Sm.kid_lt (e := .mk f al d s is ft fq fn js w g h ks) ha
      omega
    have hjs : ∀ j ∈ js, ∀ a ∈ j.qs, SizeOf.sizeOf a < m := fun j hj a ha => by
      have := Sm.j_lt (e := .mk f al d s is ft fq fn js w g h ks) hj
      have := Jo.q_lt ha
      omega
    rw [Sm.fits] at hfit
    obtain ⟨⟨fi1, fi2⟩, ⟨fq1, fq2⟩, ⟨fj1, fj2⟩, ⟨fw1, fw2⟩, ⟨fg1, fg2⟩, ⟨fh1, fh2⟩, fk1, fk2⟩ := hfit
    have e1 := s_sameSource ft fq fn ft' fq' fn' fq1 fun a ha b _ => hq a (hfq a ha) (smsFits_get _ fq2 a ha) b
    have e2 := equal_I 42 is is' fi1 fun x hx y _ => s_sameItem x y (itFits_get fi2 hx)
    have e3 := equal_J 43 js js' fj1 fun x hx y _ => s_sameJoin x y (josFits_get _ fj2 x hx) fun a ha b _ => hq a (hjs x hx a ha) (by
      have := josFits_get _ fj2 x hx
      obtain ⟨k, t, q, n, o⟩ := x
      rw [Jo.fits] at this
      exact smsFits_get _ this.1.2 a ha) b
    have e4 := s_sameTerms w w' fw1 fw2
    have e5 := s_sameTerms g g' fg1 fg2
    have e6 := s_sameTerms h h' fh1 fh2
    have e7 := equal_S 13 ks ks' fk1 fun a ha b _ => hq a (hks a ha) (smsFits_get _ fk2 a ha) b
    rw [Sm.eq, ← soEq, josEq_agree, smsEq_agree ks ks']
    simp [Sm.a, Sm.c, smsC_map, josC_map]
    (repeat' (first | contradiction | exact .of (by kernel_rfl) | refine And.intro ?_ ?_ | intro _ | (refine agrd_cases (fun h => ?_) (fun h => ?_) <;> (have h' := h; (try simp at h'); first | done | simp [h, h', josC_map, smsC_map] | simp [josC_map, smsC_map]))))
    all_goals first | (refine acallT_plain e1 (by simp [soA, soC, smsC_map]) ?_; simp [josC_map, smsC_map]; (repeat' (first | contradiction | exact .of (by kernel_rfl) | refine And.intro ?_ ?_ | intro _ | (refine agrd_cases (fun h => ?_) (fun h => ?_) <;> (have h' := h; (try simp at h'); first | done | simp [h, h', josC_map, smsC_map] | simp [josC_map, smsC_map]))))) | skip
    all_goals first | (refine acallT_plain e2 (by simp) ?_; simp [josC_map, smsC_map]; (repeat' (first | contradiction | exact .of (by kernel_rfl) | refine And.intro ?_ ?_ | intro _ | (refine agrd_cases (fun h => ?_) (fun h => ?_) <;> (have h' := h; (try simp at h'); first | done | simp [h, h', josC_map, smsC_map] | simp [josC_map, smsC_map]))))) | skip
    all_goals first | (refine acallT_plain e3 (by simp) ?_; simp [josC_map, smsC_map]; (repeat' (first | contradiction | exact .of (by kernel_rfl) | refine And.intro ?_ ?_ | intro _ | (refine agrd_cases (fun h => ?_) (fun h => ?_) <;> (have h' := h; (try simp at h'); first | done | simp [h, h', josC_map, smsC_map] | simp [josC_map, smsC_map]))))) | skip
    all_goals first | (refine acallT_plain e4 (by simp) ?_; simp [josC_map, smsC_map]; (repeat' (first | contradiction | exact .of (by kernel_rfl) | refine And.intro ?_ ?_ | intro _ | (refine agrd_cases (fun h => ?_) (fun h => ?_) <;> (have h' := h; (try simp at h'); first | done | simp [h, h', josC_map, smsC_map] | simp [josC_map, smsC_map]))))) | skip
    all_goals first | (refine acallT_plain e5 (by simp) ?_; simp [josC_map, smsC_map]; (repeat' (first | contradiction | exact .of (by kernel_rfl) | refine And.intro ?_ ?_ | intro _ | (refine agrd_cases (fun h => ?_) (fun h => ?_) <;> (have h' := h; (try simp at h'); first | done | simp [h, h', josC_map, smsC_map] | simp [josC_map, smsC_map]))))) | skip
    all_goals first | (refine acallT_plain e6 (by simp) ?_; simp [josC_map, smsC_map]; (repeat' (first | contradiction | exact .of (by kernel_rfl) | refine And.intro ?_ ?_ | intro _ | (refine agrd_cases (fun h => ?_) (fun h => ?_) <;> (have h' := h; (try simp at h'); first | done | simp [h, h', josC_map, smsC_map] | simp [josC_map, smsC_map]))))) | skip
    all_goals first | (refine acallT_plain e7 (by simp) ?_; simp [josC_map, smsC_map]; (repeat' (first | contradiction | exact .of (by kernel_rfl) | refine And.intro ?_ ?_ | intro _ | (refine agrd_cases (fun h => ?_) (fun h => ?_) <;> (have h' := h; (try simp at h'); first | done | simp [h, h', josC_map, smsC_map] | simp [josC_map, smsC_map]))))) | skip
    all_goals simp_all
end Go.Proofs.Tryd
/- Valid statements: the program's conditions. -/
namespace Go.Proofs.Tryd
open Go.Ab
set_option maxRecDepth 100000
set_option maxHeartbeats 2000000

theorem agree_nil {α : Type} {f : α → α → Bool} (l : List α) : agree f l [] = (l.length == 0) := by cases l <;> rfl
theorem eq_blank (f : Int) (a d s : Bool) (is : List It) (ft : List UInt8) (fq : List Sm) (fn : List UInt8) (js : List Jo) (w g h : List Tm) (ks : List Sm) :
    (Sm.mk f a d s is ft fq fn js w g h ks).eq (.mk f a false false [] [] [] [] [] [] [] [] ks) = (!d && (!s && (is.length == 0 && (ft == [] && (fq.length == 0 && (fn == [] && (js.length == 0 && (w.length == 0 && (g.length == 0 && h.length == 0))))))))) := by
  rw [Sm.eq, smsEq_self ks, josEq_agree, smsEq_agree, agree_nil, agree_nil, agree_nil, agree_nil, agree_nil, agree_nil]
  rw [Bool.eq_iff_iff]
  simp
  grind
theorem s_optional (s : List UInt8) : Cf Es 75 [.d (.str s)] [] (.d (.bool (nameOr s))) [] := by
  refine cf_intro mixs (fn := Tryd.f75) (by kernel_rfl) rfl (by kernel_rfl) (by decide) (by simp) ?_
  have hn := s_name s
  unfold nameOr
  simp
  (repeat' (first | contradiction | exact .of (by kernel_rfl) | refine And.intro ?_ ?_ | intro _ | (refine agrd_cases (fun h => ?_) (fun h => ?_) <;> (have h' := h; (try simp at h'); first | done | simp [h, h'] | simp))))
  all_goals first | (refine acallT_plain hn (by simp) ?_; simp; (repeat' (first | contradiction | exact .of (by kernel_rfl) | refine And.intro ?_ ?_ | intro _ | (refine agrd_cases (fun h => ?_) (fun h => ?_) <;> (have h' := h; (try simp at h'); first | done | simp [h, h'] | simp))))) | skip
  all_goals simp_all
theorem s_itemOk (x : It) (hx : x.t.fits) : Cf Es 74 [x.a] [] (.d (.bool (itRight x))) [] := by
  refine cf_intro mixs (fn := Tryd.f74) (by kernel_rfl) rfl (by kernel_rfl) (by decide) (by simp) ?_
  have h1 := s_formed _ x.t (Nat.lt_succ_self _) hx
  have h2 := s_optional x.n
  obtain ⟨⟨o, y, n, t, q, ks⟩, nm⟩ := x
  unfold itRight
  simp only at h1 h2 ⊢
  generalize hR : (Tm.mk o y n t q ks).right = R at *
  simp [It.a, It.c, Tm.c, tmsC_map]
  refine ⟨.of (by kernel_rfl), ?_⟩
  refine acallT_plain h1 (by simp [Tm.a, Tm.c, tmsC_map]) ?_
  simp
  (repeat' (first | contradiction | exact .of (by kernel_rfl) | refine And.intro ?_ ?_ | intro _ | (refine agrd_cases (fun h => ?_) (fun h => ?_) <;> (have h' := h; (try simp at h'); first | done | simp [h, h'] | simp))))
  all_goals first | (refine acallT_plain h2 (by simp) ?_; simp; (repeat' (first | contradiction | exact .of (by kernel_rfl) | refine And.intro ?_ ?_ | intro _ | (refine agrd_cases (fun h => ?_) (fun h => ?_) <;> (have h' := h; (try simp at h'); first | done | simp [h, h'] | simp))))) | skip
  all_goals simp_all
theorem s_sourceOk (t : List UInt8) (q : List Sm) (n : List UInt8) (h : ∀ x ∈ q, Cf Es 35 [x.a] [] (.d (.bool x.right)) []) :
    Cf Es 72 [soA t q n] [] (.d (.bool (soRight t q n))) [] := by
  refine cf_intro mixs (fn := Tryd.f72) (by kernel_rfl) rfl (by kernel_rfl) (by decide) (by simp) ?_
  have h1 := s_name t
  have h2 := s_optional n
  have h3 := s_name n
  unfold soRight
  match q, h with
  | [], _ =>
    simp [soA, soC, smsC]
    (repeat refine ⟨.of (by kernel_rfl), ?_⟩)
    refine acallT_plain h1 (by simp) ?_
    simp
    (repeat' (first | contradiction | exact .of (by kernel_rfl) | refine And.intro ?_ ?_ | intro _ | (refine agrd_cases (fun h => ?_) (fun h => ?_) <;> (have h' := h; (try simp at h'); first | done | simp [h, h'] | simp))))
    all_goals first | (refine acallT_plain h2 (by simp) ?_; simp; (repeat' (first | contradiction | exact .of (by kernel_rfl) | refine And.intro ?_ ?_ | intro _ | (refine agrd_cases (fun h => ?_) (fun h => ?_) <;> (have h' := h; (try simp at h'); first | done | simp [h, h'] | simp))))) | skip
    all_goals simp_all
  | [x], h =>
    have h4 := h x List.mem_cons_self
    have c1 := x.clen
    have k1 := x.ctake
    rw [smsRight, smsRight]
    generalize hR : x.right = R at *
    simp [soA, soC, smsC, c1, k1]
    (repeat' (first | contradiction | exact .of (by kernel_rfl) | refine And.intro ?_ ?_ | intro _ | (refine agrd_cases (fun h => ?_) (fun h => ?_) <;> (have h' := h; (try simp at h'); first | done | simp [h, h', c1, k1] | simp [c1, k1]))))
    all_goals first | (refine acallT_plain h3 (by simp) ?_; simp [c1, k1]; (repeat' (first | contradiction | exact .of (by kernel_rfl) | refine And.intro ?_ ?_ | intro _ | (refine agrd_cases (fun h => ?_) (fun h => ?_) <;> (have h' := h; (try simp at h'); first | done | simp [h, h', c1, k1] | simp [c1, k1]))))) | skip
    all_goals first | (refine acallT_plain h4 (by simp [Sm.a]) ?_; simp; (repeat' (first | contradiction | exact .of (by kernel_rfl) | refine And.intro ?_ ?_ | intro _ | (refine agrd_cases (fun h => ?_) (fun h => ?_) <;> (have h' := h; (try simp at h'); first | done | simp [h, h'] | simp))))) | skip
    all_goals simp_all
  | x :: y :: l, _ =>
    have hl : ¬ (l.length : Int) + 1 + 1 = 0 := by omega
    have hl1 : ((l.length : Int) + 1 + 1 == 1) = false := by simp; omega
    have hl0 : ((l.length : Int) + 1 + 1 == 0) = false := by simp; omega
    simp [soA, soC, smsC, smsC_map, hl, hl1, hl0]
    (repeat' (first | contradiction | exact .of (by kernel_rfl) | refine And.intro ?_ ?_ | intro _ | (refine agrd_cases (fun h => ?_) (fun h => ?_) <;> (have h' := h; (try simp at h'); first | done | simp [h, h', hl, hl1, hl0] | simp [hl, hl1, hl0]))))
theorem s_joinOk (x : Jo) (hx : x.fits) (h : ∀ y ∈ x.qs, Cf Es 35 [y.a] [] (.d (.bool y.right)) []) : Cf Es 77 [x.a] [] (.d (.bool x.right)) [] := by
  refine cf_intro mixs (fn := Tryd.f77) (by kernel_rfl) rfl (by kernel_rfl) (by decide) (by simp) ?_
  obtain ⟨k, t, q, n, o⟩ := x
  rw [Jo.fits] at hx
  have h1 := all_T 39 Tm.right o hx.2.1 fun x hx' => s_formed _ x (Nat.lt_succ_self _) (tmsFits_get _ hx.2.2 x hx')
  have h2 := s_sourceOk t q n h
  rw [Jo.right, ← soRight, tmsRight_all]
  generalize hO : o.all Tm.right = O at *
  generalize hS : soRight t q n = S at *
  generalize hL : o.length = L at *
  by_cases hk : k = 0
  · subst hk
    simp [Jo.a, Jo.c, hL]
    (repeat' (first | contradiction | exact .of (by kernel_rfl) | refine And.intro ?_ ?_ | intro _ | (refine agrd_cases (fun h => ?_) (fun h => ?_) <;> (have h' := h; (try simp at h'); first | done | simp [h, h', hL] | simp [hL]))))
    all_goals first | (refine acallT_plain h1 (by simp) ?_; simp; (repeat' (first | contradiction | exact .of (by kernel_rfl) | refine And.intro ?_ ?_ | intro _ | (refine agrd_cases (fun h => ?_) (fun h => ?_) <;> (have h' := h; (try simp at h'); first | done | simp [h, h'] | simp))))) | skip
    all_goals first | (refine acallT_plain h2 (by simp [soA, soC]) ?_; simp; (repeat' (first | contradiction | exact .of (by kernel_rfl) | refine And.intro ?_ ?_ | intro _ | (refine agrd_cases (fun h => ?_) (fun h => ?_) <;> (have h' := h; (try simp at h'); first | done | simp [h, h'] | simp))))) | skip
    all_goals first | (simp_all; done) | (simp_all; omega)
  · simp [Jo.a, Jo.c, hL, hk]
    (repeat' (first | contradiction | exact .of (by kernel_rfl) | refine And.intro ?_ ?_ | intro _ | (refine agrd_cases (fun h => ?_) (fun h => ?_) <;> (have h' := h; (try simp at h'); first | done | simp [h, h', hL, hk] | simp [hL, hk]))))
    all_goals first | (refine acallT_plain h1 (by simp) ?_; simp; (repeat' (first | contradiction | exact .of (by kernel_rfl) | refine And.intro ?_ ?_ | intro _ | (refine agrd_cases (fun h => ?_) (fun h => ?_) <;> (have h' := h; (try simp at h'); first | done | simp [h, h'] | simp))))) | skip
    all_goals first | (refine acallT_plain h2 (by simp [soA, soC]) ?_; simp; (repeat' (first | contradiction | exact .of (by kernel_rfl) | refine And.intro ?_ ?_ | intro _ | (refine agrd_cases (fun h => ?_) (fun h => ?_) <;> (have h' := h; (try simp at h'); first | done | simp [h, h'] | simp))))) | skip
    all_goals first | (simp_all; done) | (simp_all; omega)
theorem s_written : ∀ (m : Nat) (x : Sm), SizeOf.sizeOf x < m → x.fits → Cf Es 35 [x.a] [] (.d (.bool x.right)) []
  | 0, _, h, _ => absurd h (by omega)
  | m + 1, x, hm, hfit => by
    refine cf_intro mixs (fn := Tryd.f35) (by kernel_rfl) rfl (by kernel_rfl) (by decide) (by simp) ?_
    have hq := fun (a : Sm) (ha : SizeOf.sizeOf a < m) (fa : a.fits) => s_written m a ha fa
    have hsame := s_same (m + 1) x
    obtain ⟨f, al, d, s, is, ft, fq, fn, js, w, g, h, ks⟩ := x
    have hfq : ∀ a ∈ fq, SizeOf.sizeOf a < m := fun a ha => by
      have := Sm.q_lt (e := .mk f al d s is ft fq fn js w g h ks) ha
      omega
    have hks : ∀ a ∈ ks, SizeOf.sizeOf a < m := fun a ha => by
      have := Sm.kid_lt (e := .mk f al d s is ft fq fn js w g h ks) ha
      omega
    have hjs : ∀ j ∈ js, ∀ a ∈ j.qs, SizeOf.sizeOf a < m := fun j hj a ha => by
      have := Sm.j_lt (e := .mk f al d s is ft fq fn js w g h ks) hj
      have := Jo.q_lt ha
      omega
    have hsame := ups (hsame (.mk f al false false [] [] [] [] [] [] [] [] ks) hm hfit)
    rw [eq_blank] at hsame
    rw [Sm.fits] at hfit
    obtain ⟨⟨fi1, fi2⟩, ⟨fq1, fq2⟩, ⟨fj1, fj2⟩, ⟨fw1, fw2⟩, ⟨fg1, fg2⟩, ⟨fh1, fh2⟩, fk1, fk2⟩ := hfit
    have form := fun (x : Tm) (fx : x.fits) => s_formed _ x (Nat.lt_succ_self _) fx
    have e1 := s_sourceOk ft fq fn fun a ha => hq a (hfq a ha) (smsFits_get _ fq2 a ha)
    have e2 := all_I 74 itRight is fi1 fun x hx => s_itemOk x (itFits_get fi2 hx)
    have e3 := all_J 77 Jo.right js fj1 fun x hx => by
      have h1 := josFits_get _ fj2 x hx
      refine s_joinOk x h1 fun a ha => hq a (hjs x hx a ha) ?_
      obtain ⟨k, t, q, n, o⟩ := x
      rw [Jo.fits] at h1
      exact smsFits_get _ h1.1.2 a ha
    have e4 := all_T 39 Tm.right w fw1 fun x hx => form x (tmsFits_get _ fw2 x hx)
    have e5 := all_T 39 Tm.right g fg1 fun x hx => form x (tmsFits_get _ fg2 x hx)
    have e6 := all_T 39 Tm.right h fh1 fun x hx => form x (tmsFits_get _ fh2 x hx)
    have e7 := all_S 35 Sm.right ks fk1 fun a ha => hq a (hks a ha) (smsFits_get _ fk2 a ha)
    rw [Sm.right, ← soRight, josRight_all, tmsRight_all, tmsRight_all, tmsRight_all, smsRight_all ks]
    generalize hS : soRight ft fq fn = S at *
    generalize hI : is.all itRight = I at *
    generalize hJ : js.all Jo.right = J at *
    generalize hW : w.all Tm.right = W at *
    generalize hG : g.all Tm.right = G at *
    generalize hH : h.all Tm.right = H at *
    generalize hK : ks.all Sm.right = K at *
    clear hq hfq hks hjs hm fi1 fi2 fq1 fq2 fj1 fj2 fw1 fw2 fg1 fg2 fh1 fh2 fk1 fk2 form
    by_cases h1 : f = 1
    · subst h1
      clear hsame
      generalize hlk : ks.length = lk
      generalize hli : is.length = li
      generalize hlw : w.length = lw
      generalize hlh : h.length = lh
      rw [show (li == 0) = ((li : Int) == 0) by rw [Bool.eq_iff_iff]; simp]
      simp [Sm.a, Sm.c, smsC_map, josC_map, hlk, hli, hlw, hlh]
      (repeat' (first | contradiction | exact .of (by kernel_rfl) | refine And.intro ?_ ?_ | intro _ | (refine agrd_cases (fun h => ?_) (fun h => ?_) <;> (have h' := h; (try simp at h'); first | done | simp [h, h', smsC_map, josC_map, hlk, hli, hlw, hlh] | simp [smsC_map, josC_map, hlk, hli, hlw, hlh]))))
      all_goals first | (refine acallT_plain e1 (by simp [soA, soC, smsC_map]) ?_; simp [josC_map, smsC_map]; (repeat' (first | contradiction | exact .of (by kernel_rfl) | refine And.intro ?_ ?_ | intro _ | (refine agrd_cases (fun h => ?_) (fun h => ?_) <;> (have h' := h; (try simp at h'); first | done | simp [h, h', josC_map, smsC_map] | simp [josC_map, smsC_map]))))) | skip
      all_goals first | (refine acallT_plain e2 (by simp) ?_; simp [josC_map, smsC_map]; (repeat' (first | contradiction | exact .of (by kernel_rfl) | refine And.intro ?_ ?_ | intro _ | (refine agrd_cases (fun h => ?_) (fun h => ?_) <;> (have h' := h; (try simp at h'); first | done | simp [h, h', josC_map, smsC_map] | simp [josC_map, smsC_map]))))) | skip
      all_goals first | (refine acallT_plain e3 (by simp) ?_; simp [josC_map, smsC_map]; (repeat' (first | contradiction | exact .of (by kernel_rfl) | refine And.intro ?_ ?_ | intro _ | (refine agrd_cases (fun h => ?_) (fun h => ?_) <;> (have h' := h; (try simp at h'); first | done | simp [h, h', josC_map, smsC_map] | simp [josC_map, smsC_map]))))) | skip
      all_goals first | (refine acallT_plain e4 (by simp) ?_; simp [josC_map, smsC_map]; (repeat' (first | contradiction | exact .of (by kernel_rfl) | refine And.intro ?_ ?_ | intro _ | (refine agrd_cases (fun h => ?_) (fun h => ?_) <;> (have h' := h; (try simp at h'); first | done | simp [h, h', josC_map, smsC_map] | simp [josC_map, smsC_map]))))) | skip
      all_goals first | (refine acallT_plain e5 (by simp) ?_; simp [josC_map, smsC_map]; (repeat' (first | contradiction | exact .of (by kernel_rfl) | refine And.intro ?_ ?_ | intro _ | (refine agrd_cases (fun h => ?_) (fun h => ?_) <;> (have h' := h; (try simp at h'); first | done | simp [h, h', josC_map, smsC_map] | simp [josC_map, smsC_map]))))) | skip
      all_goals first | (refine acallT_plain e6 (by simp) ?_; simp [josC_map, smsC_map]; (repeat' (first | contradiction | exact .of (by kernel_rfl) | refine And.intro ?_ ?_ | intro _ | (refine agrd_cases (fun h => ?_) (fun h => ?_) <;> (have h' := h; (try simp at h'); first | done | simp [h, h', josC_map, smsC_map] | simp [josC_map, smsC_map]))))) | skip
      all_goals first | (simp_all; done) | (simp_all; omega) | (by_cases b1 : lw ≤ 1 <;> by_cases b2 : lh ≤ 1 <;> simp_all <;> done) | (by_cases b1 : lw ≤ 1 <;> by_cases b2 : lh ≤ 1 <;> simp_all <;> omega)
    · by_cases h2 : f = 2 ∨ f = 3 ∨ f = 4
      · rw [if_neg h1, if_pos h2]
        generalize hB : (!d && (!s && (is.length == 0 && (ft == [] && (fq.length == 0 && (fn == [] && (js.length == 0 && (w.length == 0 && (g.length == 0 && h.length == 0))))))))) = B at *
        generalize hlk : ks.length = lk
        rcases h2 with rfl | rfl | rfl
        all_goals simp [Sm.a, Sm.c, smsC_map, josC_map, hlk]
        all_goals ((repeat' (first | contradiction | exact .of (by kernel_rfl) | refine And.intro ?_ ?_ | intro _ | (refine agrd_cases (fun h => ?_) (fun h => ?_) <;> (have h' := h; (try simp at h'); first | done | simp [h, h', smsC_map, josC_map, hlk] | simp [smsC_map, josC_map, hlk])))))
        all_goals first | (refine acallT_plain e7 (by simp) ?_; simp [josC_map, smsC_map]; (repeat' (first | contradiction | exact .of (by kernel_rfl) | refine And.intro ?_ ?_ | intro _ | (refine agrd_cases (fun h => ?_) (fun h => ?_) <;> (have h' := h; (try simp at h'); first | done | simp [h, h', josC_map, smsC_map] | simp [josC_map, smsC_map]))))) | skip
        all_goals first | (refine acallT_plain hsame (by simp [Sm.a, Sm.c, josC_map, smsC_map]) ?_; simp [josC_map, smsC_map]; (repeat' (first | contradiction | exact .of (by kernel_rfl) | refine And.intro ?_ ?_ | intro _ | (refine agrd_cases (fun h => ?_) (fun h => ?_) <;> (have h' := h; (try simp at h'); first | done | simp [h, h', josC_map, smsC_map] | simp [josC_map, smsC_map]))))) | skip
        all_goals first | (simp_all; done) | (simp_all; omega)
      · have h2' : ¬ f = 2 := fun e => h2 (.inl e)
        have h3' : ¬ f = 3 := fun e => h2 (.inr (.inl e))
        have h4' : ¬ f = 4 := fun e => h2 (.inr (.inr e))
        rw [if_neg h1, if_neg h2]
        simp [Sm.a, Sm.c, h1, h2', h3', h4']
        (repeat' (first | contradiction | exact .of (by kernel_rfl) | refine And.intro ?_ ?_ | intro _ | (refine agrd_cases (fun h => ?_) (fun h => ?_) <;> (have h' := h; (try simp at h'); first | done | simp [h, h', h1, h2', h3', h4'] | simp [h1, h2', h3', h4']))))
theorem s_valid (x : Sm) (hf : x.fits) (hs : x.small) : Cf Es 9 [x.a] [] (.d (.bool (decide (x.dep ≤ 24) && x.right))) [] := by
  refine cf_intro mixs (fn := Tryd.f9) (by kernel_rfl) rfl (by kernel_rfl) (by decide) (by simp) ?_
  have h1 := ups (s_depth _ x (Nat.lt_succ_self _) hf hs)
  have h2 := s_written _ x (Nat.lt_succ_self _) hf
  have c1 := x.clen
  have k1 := x.ctake
  simp [Sm.a, c1, k1]
  (repeat refine ⟨.of (by kernel_rfl), ?_⟩)
  refine acallT_plain h1 (by simp [Sm.a]) ?_
  simp [c1, k1]
  (repeat' (first | contradiction | exact .of (by kernel_rfl) | refine And.intro ?_ ?_ | intro _ | (refine agrd_cases (fun h => ?_) (fun h => ?_) <;> (have h' := h; (try simp at h'); first | done | simp [h, h', c1, k1] | simp [c1, k1]))))
  all_goals first | (refine acallT_plain h2 (by simp [Sm.a]) ?_; simp; (repeat' (first | contradiction | exact .of (by kernel_rfl) | refine And.intro ?_ ?_ | intro _ | (refine agrd_cases (fun h => ?_) (fun h => ?_) <;> (have h' := h; (try simp at h'); first | done | simp [h, h'] | simp))))) | skip
  all_goals simp_all
theorem s_validTerm (x : Tm) (hf : x.fits) : Cf Es 11 [x.a] [] (.d (.bool (decide (x.dep ≤ 24) && x.right))) [] := by
  refine cf_intro mixs (fn := Tryd.f11) (by kernel_rfl) rfl (by kernel_rfl) (by decide) (by simp) ?_
  have h1 := ups (s_termDepth _ x (Nat.lt_succ_self _) hf)
  have h2 := s_formed _ x (Nat.lt_succ_self _) hf
  have c1 := x.clen
  have k1 := x.ctake
  simp [Tm.a, c1, k1]
  (repeat refine ⟨.of (by kernel_rfl), ?_⟩)
  refine acallT_plain h1 (by simp [Tm.a]) ?_
  simp [c1, k1]
  (repeat' (first | contradiction | exact .of (by kernel_rfl) | refine And.intro ?_ ?_ | intro _ | (refine agrd_cases (fun h => ?_) (fun h => ?_) <;> (have h' := h; (try simp at h'); first | done | simp [h, h', c1, k1] | simp [c1, k1]))))
  all_goals first | (refine acallT_plain h2 (by simp [Tm.a]) ?_; simp; (repeat' (first | contradiction | exact .of (by kernel_rfl) | refine And.intro ?_ ?_ | intro _ | (refine agrd_cases (fun h => ?_) (fun h => ?_) <;> (have h' := h; (try simp at h'); first | done | simp [h, h'] | simp))))) | skip
  all_goals simp_all
end Go.Proofs.Tryd
/- Terms over columns: bind.Term and the reference's Term. -/
namespace Go.Proofs.Tryd
open Go.Ab
set_option maxRecDepth 100000
set_option maxHeartbeats 4000000

theorem b_term (ns : List (List UInt8)) (hns : ns.length ≤ 1000) (x : Tm) (hq : x.few 0 = true) (hr : x.right = true) :
    Cf En 54 [.d (.sl (ns.map scC)), x.a] [] (.tup [(bndG ns x).1.a, .d (.int .i64 (bndG ns x).2)]) [] := by
  refine cf_intro mix (fn := Tryd.f54) (by kernel_rfl) rfl (by kernel_rfl) (by decide) (by simp) ?_
  have h := s_toExpr ns hns _ x (Nat.lt_succ_self _) 0 hq hr
  have c1 := x.clen
  have k1 := x.ctake
  have k1' := x.ctake'
  have c2 := (bndG ns x).1.clen
  have k2 := (bndG ns x).1.ctake
  simp [Tm.a, c1, k1, k1']
  (repeat' (first | contradiction | exact .of (by kernel_rfl) | refine And.intro ?_ ?_ | intro _ | (refine agrd_cases (fun h => ?_) (fun h => ?_) <;> (have h' := h; (try simp at h'); first | done | simp [h, h'] | simp))))
  refine acallT_plain h (by simp [Tm.a]) ?_
  simp [Ex.a, c2, k2]
  (repeat' (first | contradiction | exact .of (by kernel_rfl) | refine And.intro ?_ ?_ | intro _ | (refine agrd_cases (fun h => ?_) (fun h => ?_) <;> (have h' := h; (try simp at h'); first | done | simp [h, h'] | simp))))
def scL (cols : List Col) : List (List D) := cols.map fun c => scC c.n
def tyL (cols : List Col) : List (List D) := cols.map fun c => [.int .i64 c.t]
theorem scL_eq (cols : List Col) : (cols.map Col.n).map scC = scL cols := by rw [List.map_map]; rfl
theorem tyL_eq (cols : List Col) : ints (cols.map Col.t) = tyL cols := by unfold ints tyL; rw [List.map_map]; rfl
theorem scL_len (cols : List Col) : (scL cols).length = cols.length := List.length_map _
theorem tyL_len (cols : List Col) : (tyL cols).length = cols.length := List.length_map _
theorem scL_succ {cols : List Col} {i : Nat} {u : Col} (h : cols[i]? = some u) : scL (cols.take (i + 1)) = scL (cols.take i) ++ [scC u.n] := by
  unfold scL; rw [List.take_add_one, h]; simp
theorem tyL_succ {cols : List Col} {i : Nat} {u : Col} (h : cols[i]? = some u) : tyL (cols.take (i + 1)) = tyL (cols.take i) ++ [[.int .i64 u.t]] := by
  unfold tyL; rw [List.take_add_one, h]; simp
def btF (cols : List Col) (x : List AV) : Nat → St
  | 0 => { s := mkS [(3, .ptr 3 0 0), (4, .ptr 4 0 0), (5, .d (.int .i64 0)), (6, .nils), (7, .nils), (18, .d (.sl (cols.map Col.c))), (19, .d (.int .i64 cols.length)), (20, .d (.int .i64 0))], b := mkB [(3, 3, .var x), (4, 4, .var zC)] }
  | i + 1 => { s := mkS [(3, .ptr 3 0 0), (4, .ptr 4 0 0), (5, .d (.int .i64 0)), (6, .ref 900 0 (i + 1) 2), (7, .ref 901 0 (i + 1) 1), (18, .d (.sl (cols.map Col.c))), (19, .d (.int .i64 cols.length)), (20, .d (.int .i64 (i + 1 : Nat)))], b := mkB [(3, 3, .var x), (4, 4, .var zC), (900, 900, .arr 99 2 (scL (cols.take (i + 1))) false), (901, 901, .arr 3 1 (tyL (cols.take (i + 1))) false)] }
theorem b_Term (cols : List Col) (hc : cols.length ≤ 1000) (x : Tm) (hq : x.few 0 = true) (hf : x.fits) :
    Cf Et 19 [.d (.sl (cols.map Col.c)), x.a] [] (.tup [(bindT (cols.map Col.n) (cols.map Col.t) x).1.a, .d (.int .i64 (bindT (cols.map Col.n) (cols.map Col.t) x).2)]) [] := by
  refine cf_intro mixt (fn := Tryd.f19) (by kernel_rfl) rfl (by kernel_rfl) (by decide) (by simp) ?_
  have hv := upst (s_validTerm x hf)
  have c1 := x.clen
  have k1 := x.ctake
  have k1' := x.ctake'
  unfold bindT
  cases hok : (decide (x.dep ≤ 24) && x.right) with
  | false =>
    rw [hok] at hv
    simp [Tm.a, c1, k1, k1']
    (repeat' (first | contradiction | exact .of (by kernel_rfl) | refine And.intro ?_ ?_ | intro _ | (refine agrd_cases (fun h => ?_) (fun h => ?_) <;> (have h' := h; (try simp at h'); first | done | simp [h, h'] | simp))))
    refine acallT_plain hv (by simp [Tm.a]) ?_
    simp
    (repeat' (first | contradiction | exact .of (by kernel_rfl) | refine And.intro ?_ ?_ | intro _ | (refine agrd_cases (fun h => ?_) (fun h => ?_) <;> (have h' := h; (try simp at h'); first | done | simp [h, h'] | simp))))
    all_goals simp [zEx, Ex.a, Ex.c, kidsC]
  | true =>
  have hright : x.right = true := by
    simp only [Bool.and_eq_true] at hok
    exact hok.2
  rw [if_pos rfl]
  rw [hok] at hv
  have hb := upn (b_term (cols.map Col.n) (by simpa using hc) x hq hright)
  have hxok := bnd_ok (cols.map Col.n) _ x (Nat.lt_succ_self _) hright
  have hxfew := bnd_few (cols.map Col.n) _ x (Nat.lt_succ_self _) 0 hq
  rw [scL_eq] at hb
  have hty : (bndG (cols.map Col.n) x).2 = 0 → Cf Et 55 [.d (.sl (tyL cols)), (bndG (cols.map Col.n) x).1.a] [] (.tup [.d (.int .i64 (typeG (cols.map Col.t) (bndG (cols.map Col.n) x).1).1), .d (.int .i64 (typeG (cols.map Col.t) (bndG (cols.map Col.n) x).1).2)]) [] := fun h => by
    rw [← tyL_eq]
    exact x_type (by simpa using hc) (by have := hxok h; rwa [List.length_map] at this ⊢) hxfew
  clear hxok hxfew
  generalize bndG (cols.map Col.n) x = r at *
  obtain ⟨e, er⟩ := r
  simp only at *
  generalize typeG (cols.map Col.t) e = ty at *
  obtain ⟨ty, te⟩ := ty
  simp only at *
  have c2 := e.clen
  have k2 := e.ctake
  have k2' := e.ctake'
  simp [Tm.a, c1, k1, k1']
  (repeat' (first | contradiction | exact .of (by kernel_rfl) | refine And.intro ?_ ?_ | intro _ | (refine agrd_cases (fun h => ?_) (fun h => ?_) <;> (have h' := h; (try simp at h'); first | done | simp [h, h'] | simp))))
  refine acallT_plain hv (by simp [Tm.a]) ?_
  simp
  (repeat' (first | contradiction | exact .of (by kernel_rfl) | refine And.intro ?_ ?_ | intro _ | (refine agrd_cases (fun h => ?_) (fun h => ?_) <;> (have h' := h; (try simp at h'); first | done | simp [h, h'] | simp))))
  refine aloopT mixt (by decide) (btF cols (x.c.map AV.d)) (fun i : Nat => i ≤ cols.length) (fun i => cols.length - i) 0 (by simp) (sub_mk [(3, _), (4, _), (5, _), (6, _), (7, _), (18, _), (19, _), (20, _)] [(3, 3, _), (4, 4, _)] ⟨by simp, by simp, by simp [renOf, Blk.live, zC], by simp⟩ (by simp [renOf])) ?_
  intro i hi
  by_cases hlt : i < cols.length
  · have hg : cols[i]? = some cols[i] := List.getElem?_eq_getElem hlt
    obtain ⟨u, hu⟩ : ∃ u, u = cols[i] := ⟨_, rfl⟩
    have hgi : ∀ h, cols[i]'h = u := fun _ => hu.symm
    rw [← hu] at hg
    have hs1 := scL_succ hg
    have hs2 := tyL_succ hg
    have l1 := scL_len (cols.take i)
    have l2 := tyL_len (cols.take i)
    rw [List.length_take] at l1 l2
    clear hv hb hty
    cases i with
    | zero =>
      have hlt2 : (0 : Int) < cols.length := by omega
      simp [btF, hlt, hlt2, hg, hgi, Col.c]
      (repeat' (first | contradiction | exact .of (by kernel_rfl) | refine And.intro ?_ ?_ | intro _ | (refine agrd_cases (fun h => ?_) (fun h => ?_) <;> (have h' := h; (try simp at h'); first | done | simp [h, h'] | simp))))
      refine ⟨1, hlt, ?_, ?_⟩
      · refine sub_mk [(3, _), (4, _), (5, _), (6, _), (7, _), (18, _), (19, _), (20, _)] [(3, 3, _), (4, 4, _), (900, 29, _), (901, 34, _)] ⟨by simp, by simp, ?_, by simp⟩ ?_
        · simp [renOf, Blk.live, hs1, hs2, zC, scC]
          simp [scL, tyL]
        · simp [renOf]
          exact wrap_in (by omega) (by omega)
      · simp; omega
    | succ i =>
      have hlt2 : (i : Int) + 1 < cols.length := by omega
      have hp : (0 : Int) ≤ (i : Int) + 1 := by omega
      have e1 : (scL (cols.take (i + 1))).length = i + 1 := by omega
      have e2 : (tyL (cols.take (i + 1))).length = i + 1 := by omega
      have s1 : (i + 1 + 1) * 32 ≤ 140737488355328 := by omega
      have s3 : (i + 1 + 1) * 8 ≤ 140737488355328 := by omega
      have s2 : i ≤ 9223372036854775805 := by omega
      simp [btF, hlt, hlt2, hp, hg, hgi, Col.c, e1, e2, s1, s2, s3]
      (repeat' (first | contradiction | exact .of (by kernel_rfl) | refine And.intro ?_ ?_ | intro _ | (refine agrd_cases (fun h => ?_) (fun h => ?_) <;> (have h' := h; (try simp at h'); first | done | simp [h, h'] | simp))))
      refine ⟨i + 2, by omega, ?_, ?_⟩
      · refine sub_mk [(3, _), (4, _), (5, _), (6, _), (7, _), (18, _), (19, _), (20, _)] [(3, 3, _), (4, 4, _), (900, 29, _), (901, 34, _)] ⟨by simp, by simp, ?_, by simp⟩ ?_
        · simp [renOf, Blk.live, hs1, hs2, zC, scC]
        · simp [renOf]
          rw [wrap_in (by omega) (by omega)]
      · simp; omega
  have hie : i = cols.length := by omega
  subst hie
  clear hi hlt
  cases hkl : cols.length with
  | zero =>
    have hc0 : cols = [] := List.eq_nil_of_length_eq_zero hkl
    subst hc0
    simp [btF, c1, k1, k1']
    (repeat' (first | contradiction | exact .of (by kernel_rfl) | refine And.intro ?_ ?_ | intro _ | (refine agrd_cases (fun h => ?_) (fun h => ?_) <;> (have h' := h; (try simp at h'); first | done | simp [h, h'] | simp))))
    refine acallT_plain hb (by simp [Tm.a, scL]) ?_
    simp [Ex.a, c2, k2, k2']
    by_cases he : er = 0
    · subst he
      have hty := hty rfl
      simp [c2, k2, k2']
      (repeat' (first | contradiction | exact .of (by kernel_rfl) | refine And.intro ?_ ?_ | intro _ | (refine agrd_cases (fun h => ?_) (fun h => ?_) <;> (have h' := h; (try simp at h'); first | done | simp [h, h'] | simp))))
      refine acallT_plain hty (by simp [Ex.a, tyL]) ?_
      by_cases ht : te = 0
      · subst ht
        simp [c2, k2, k2', zC]
        (repeat' (first | contradiction | exact .of (by kernel_rfl) | refine And.intro ?_ ?_ | intro _ | (refine agrd_cases (fun h => ?_) (fun h => ?_) <;> (have h' := h; (try simp at h'); first | done | simp [h, h'] | simp))))
      · simp [ht]
        (repeat' (first | contradiction | exact .of (by kernel_rfl) | refine And.intro ?_ ?_ | intro _ | (refine agrd_cases (fun h => ?_) (fun h => ?_) <;> (have h' := h; (try simp at h'); first | done | simp [h, h', ht] | simp [ht]))))
        all_goals simp [zEx, zC, Ex.a, Ex.c, kidsC, ht]
    · simp [he]
      (repeat' (first | contradiction | exact .of (by kernel_rfl) | refine And.intro ?_ ?_ | intro _ | (refine agrd_cases (fun h => ?_) (fun h => ?_) <;> (have h' := h; (try simp at h'); first | done | simp [h, h', he] | simp [he]))))
      all_goals simp [zEx, zC, Ex.a, Ex.c, kidsC, he]
  | succ i =>
    have htk : cols.take (i + 1) = cols := List.take_of_length_le (by omega)
    have l1 := scL_len cols
    have l2 := tyL_len cols
    rw [hkl] at l1 l2
    have t1 : List.take (i + 1) (scL cols) = scL cols := List.take_of_length_le (by omega)
    have t2 : List.take (i + 1) (tyL cols) = tyL cols := List.take_of_length_le (by omega)
    simp [btF, htk, hkl, c1, k1, k1']
    (repeat' (first | contradiction | exact .of (by kernel_rfl) | refine And.intro ?_ ?_ | intro _ | (refine agrd_cases (fun h => ?_) (fun h => ?_) <;> (have h' := h; (try simp at h'); first | done | simp [h, h'] | simp))))
    refine acallT_plain hb (by simp [Tm.a, l1, t1]) ?_
    simp [Ex.a, c2, k2, k2', l1, t1, l2, t2]
    by_cases he : er = 0
    · subst he
      have hty := hty rfl
      simp [c2, k2, k2', l1, t1, l2, t2]
      (repeat' (first | contradiction | exact .of (by kernel_rfl) | refine And.intro ?_ ?_ | intro _ | (refine agrd_cases (fun h => ?_) (fun h => ?_) <;> (have h' := h; (try simp at h'); first | done | simp [h, h'] | simp))))
      refine acallT_plain hty (by simp [Ex.a, l2, t2]) ?_
      by_cases ht : te = 0
      · subst ht
        simp [c2, k2, k2', zC, l1, t1, l2, t2]
        (repeat' (first | contradiction | exact .of (by kernel_rfl) | refine And.intro ?_ ?_ | intro _ | (refine agrd_cases (fun h => ?_) (fun h => ?_) <;> (have h' := h; (try simp at h'); first | done | simp [h, h'] | simp))))
      · simp [ht, l1, t1, l2, t2]
        (repeat' (first | contradiction | exact .of (by kernel_rfl) | refine And.intro ?_ ?_ | intro _ | (refine agrd_cases (fun h => ?_) (fun h => ?_) <;> (have h' := h; (try simp at h'); first | done | simp [h, h', ht] | simp [ht]))))
        all_goals simp [zEx, zC, Ex.a, Ex.c, kidsC, ht]
    · simp [he, l1, t1, l2, t2]
      (repeat' (first | contradiction | exact .of (by kernel_rfl) | refine And.intro ?_ ?_ | intro _ | (refine agrd_cases (fun h => ?_) (fun h => ?_) <;> (have h' := h; (try simp at h'); first | done | simp [h, h', he] | simp [he]))))
      all_goals simp [zEx, zC, Ex.a, Ex.c, kidsC, he]
end Go.Proofs.Tryd
/- Terms over columns: the reference's Term. -/
namespace Go.Proofs.Tryd
open Go.Ab
set_option maxRecDepth 100000
set_option maxHeartbeats 4000000

def soF (cols : List Col) : Nat → St
  | 0 => { s := mkS [(0, .d (.sl (cols.map Col.c))), (2, .nils), (3, .nils), (4, .nils), (5, .nils), (6, .d (.int .i64 0))], b := mkB [] }
  | i + 1 => { s := mkS [(0, .d (.sl (cols.map Col.c))), (2, .nils), (3, .nils), (4, .ref 900 0 (i + 1) 2), (5, .ref 901 0 (i + 1) 1), (6, .d (.int .i64 (i + 1 : Nat)))], b := mkB [(900, 900, .arr 137 2 (scL (cols.take (i + 1))) false), (901, 901, .arr 3 1 (tyL (cols.take (i + 1))) false)] }
theorem r_scopeOf (cols : List Col) (hc : cols.length ≤ 1000) : Cf En 56 [.d (.sl (cols.map Col.c))] [] (.tup [.d (.sl (scL cols)), .d (.sl (tyL cols))]) [] := by
  refine cf_intro mix (fn := Tryd.f56) (by kernel_rfl) rfl (by kernel_rfl) (by decide) (by simp) ?_
  simp
  (repeat' (first | contradiction | exact .of (by kernel_rfl) | refine And.intro ?_ ?_ | intro _ | (refine agrd_cases (fun h => ?_) (fun h => ?_) <;> (have h' := h; (try simp at h'); first | done | simp [h, h'] | simp))))
  refine aloopT mix (by decide) (soF cols) (fun i : Nat => i ≤ cols.length) (fun i => cols.length - i) 0 (by simp) (sub_mk [(0, _), (2, _), (3, _), (4, _), (5, _), (6, _)] [] .nil (by simp [renOf])) ?_
  intro i hi
  by_cases hlt : i < cols.length
  · have hg : cols[i]? = some cols[i] := List.getElem?_eq_getElem hlt
    obtain ⟨u, hu⟩ : ∃ u, u = cols[i] := ⟨_, rfl⟩
    have hgi : ∀ h, cols[i]'h = u := fun _ => hu.symm
    rw [← hu] at hg
    have hs1 := scL_succ hg
    have hs2 := tyL_succ hg
    have l1 := scL_len (cols.take i)
    have l2 := tyL_len (cols.take i)
    rw [List.length_take] at l1 l2
    cases i with
    | zero =>
      have hlt2 : (0 : Int) < cols.length := by omega
      simp [soF, hlt, hlt2, hg, hgi, Col.c]
      (repeat' (first | contradiction | exact .of (by kernel_rfl) | refine And.intro ?_ ?_ | intro _ | (refine agrd_cases (fun h => ?_) (fun h => ?_) <;> (have h' := h; (try simp at h'); first | done | simp [h, h'] | simp))))
      refine ⟨1, hlt, ?_, ?_⟩
      · refine sub_mk [(0, _), (2, _), (3, _), (4, _), (5, _), (6, _)] [(900, 21, _), (901, 29, _)] ⟨by simp, by simp, ?_, by simp⟩ ?_
        · simp [renOf, Blk.live, hs1, hs2, scC]
          simp [scL, tyL]
        · simp [renOf]
          exact wrap_in (by omega) (by omega)
      · simp; omega
    | succ i =>
      have hlt2 : (i : Int) + 1 < cols.length := by omega
      have hp : (0 : Int) ≤ (i : Int) + 1 := by omega
      have e1 : (scL (cols.take (i + 1))).length = i + 1 := by omega
      have e2 : (tyL (cols.take (i + 1))).length = i + 1 := by omega
      have s1 : (i + 1 + 1) * 32 ≤ 140737488355328 := by omega
      have s3 : (i + 1 + 1) * 8 ≤ 140737488355328 := by omega
      have s2 : i ≤ 9223372036854775805 := by omega
      simp [soF, hlt, hlt2, hp, hg, hgi, Col.c, e1, e2, s1, s2, s3]
      (repeat' (first | contradiction | exact .of (by kernel_rfl) | refine And.intro ?_ ?_ | intro _ | (refine agrd_cases (fun h => ?_) (fun h => ?_) <;> (have h' := h; (try simp at h'); first | done | simp [h, h'] | simp))))
      refine ⟨i + 2, by omega, ?_, ?_⟩
      · refine sub_mk [(0, _), (2, _), (3, _), (4, _), (5, _), (6, _)] [(900, 21, _), (901, 29, _)] ⟨by simp, by simp, ?_, by simp⟩ ?_
        · simp [renOf, Blk.live, hs1, hs2, scC]
        · simp [renOf]
          rw [wrap_in (by omega) (by omega)]
      · simp; omega
  have hie : i = cols.length := by omega
  subst hie
  clear hi hlt
  cases hkl : cols.length with
  | zero =>
    have hc0 : cols = [] := List.eq_nil_of_length_eq_zero hkl
    subst hc0
    simp [soF]
    (repeat' (first | contradiction | exact .of (by kernel_rfl) | refine And.intro ?_ ?_ | intro _ | (refine agrd_cases (fun h => ?_) (fun h => ?_) <;> (have h' := h; (try simp at h'); first | done | simp [h, h'] | simp))))
    all_goals simp [scL, tyL]
  | succ i =>
    have htk : cols.take (i + 1) = cols := List.take_of_length_le (by omega)
    have l1 := scL_len cols
    have l2 := tyL_len cols
    rw [hkl] at l1 l2
    have t1 : List.take (i + 1) (scL cols) = scL cols := List.take_of_length_le (by omega)
    have t2 : List.take (i + 1) (tyL cols) = tyL cols := List.take_of_length_le (by omega)
    simp [soF, htk, hkl, l1, l2, t1, t2]
    (repeat' (first | contradiction | exact .of (by kernel_rfl) | refine And.intro ?_ ?_ | intro _ | (refine agrd_cases (fun h => ?_) (fun h => ?_) <;> (have h' := h; (try simp at h'); first | done | simp [h, h'] | simp))))
    all_goals simp [l1, l2, t1, t2]
theorem r_Term (cols : List Col) (hc : cols.length ≤ 1000) (x : Tm) (hq : x.few 0 = true) (hf : x.fits) :
    Cf Et 20 [.d (.sl (cols.map Col.c)), x.a] [] (.tup [(bindT (cols.map Col.n) (cols.map Col.t) x).1.a, .d (.int .i64 (bindT (cols.map Col.n) (cols.map Col.t) x).2)]) [] := by
  refine cf_intro mixt (fn := Tryd.f20) (by kernel_rfl) rfl (by kernel_rfl) (by decide) (by simp) ?_
  have hv := upst (r_validTerm x hf)
  have hsc := upn (r_scopeOf cols hc)
  have c1 := x.clen
  have k1 := x.ctake
  have k1' := x.ctake'
  unfold bindT
  cases hok : (decide (x.dep ≤ 24) && x.right) with
  | false =>
    rw [hok] at hv
    simp [Tm.a, c1, k1, k1']
    (repeat' (first | contradiction | exact .of (by kernel_rfl) | refine And.intro ?_ ?_ | intro _ | (refine agrd_cases (fun h => ?_) (fun h => ?_) <;> (have h' := h; (try simp at h'); first | done | simp [h, h'] | simp))))
    refine acallT_plain hv (by simp [Tm.a]) ?_
    simp
    (repeat' (first | contradiction | exact .of (by kernel_rfl) | refine And.intro ?_ ?_ | intro _ | (refine agrd_cases (fun h => ?_) (fun h => ?_) <;> (have h' := h; (try simp at h'); first | done | simp [h, h'] | simp))))
    all_goals simp [zEx, Ex.a, Ex.c, kidsC]
  | true =>
  have hright : x.right = true := by
    simp only [Bool.and_eq_true] at hok
    exact hok.2
  rw [if_pos rfl]
  rw [hok] at hv
  have hb := upn (r_term (cols.map Col.n) (by simpa using hc) _ x (Nat.lt_succ_self _) 0 hq)
  have hxok := bnd_ok (cols.map Col.n) _ x (Nat.lt_succ_self _) hright
  have hxfew := bnd_few (cols.map Col.n) _ x (Nat.lt_succ_self _) 0 hq
  have hbr := bndR_ok (cols.map Col.n) x
  rw [scL_eq] at hb
  have hty : (bndG (cols.map Col.n) x).2 = 0 → Cf Et 58 [.d (.sl (tyL cols)), (bndG (cols.map Col.n) x).1.a] [] (.tup [.d (.int .i64 (typeG (cols.map Col.t) (bndG (cols.map Col.n) x).1).1), .d (.int .i64 (typeG (cols.map Col.t) (bndG (cols.map Col.n) x).1).2)]) [] := fun h => by
    rw [← tyL_eq]
    exact upn (r_type (by simpa using hc) (by have := hxok h; rwa [List.length_map] at this ⊢) hxfew)
  clear hxok hxfew
  generalize bndG (cols.map Col.n) x = r at *
  generalize bndR (cols.map Col.n) x = e2 at *
  obtain ⟨e, er⟩ := r
  simp only at *
  generalize typeG (cols.map Col.t) e = ty at *
  obtain ⟨ty, te⟩ := ty
  simp only at *
  have c2 := e.clen
  have k2 := e.ctake
  have k2' := e.ctake'
  have c3 := e2.clen
  have k3 := e2.ctake
  have k3' := e2.ctake'
  simp [Tm.a, c1, k1, k1']
  (repeat' (first | contradiction | exact .of (by kernel_rfl) | refine And.intro ?_ ?_ | intro _ | (refine agrd_cases (fun h => ?_) (fun h => ?_) <;> (have h' := h; (try simp at h'); first | done | simp [h, h'] | simp))))
  refine acallT_plain hv (by simp [Tm.a]) ?_
  simp
  (repeat' (first | contradiction | exact .of (by kernel_rfl) | refine And.intro ?_ ?_ | intro _ | (refine agrd_cases (fun h => ?_) (fun h => ?_) <;> (have h' := h; (try simp at h'); first | done | simp [h, h'] | simp))))
  refine acallT_plain hsc (by simp) ?_
  simp [c1, k1, k1']
  (repeat' (first | contradiction | exact .of (by kernel_rfl) | refine And.intro ?_ ?_ | intro _ | (refine agrd_cases (fun h => ?_) (fun h => ?_) <;> (have h' := h; (try simp at h'); first | done | simp [h, h'] | simp))))
  refine acallT_plain hb (by simp [Tm.a]) ?_
  by_cases he : er = 0
  · subst he
    have hty := hty rfl
    have h2 : e2 = e := hbr rfl
    subst h2
    simp [Ex.a, c2, k2, k2']
    (repeat' (first | contradiction | exact .of (by kernel_rfl) | refine And.intro ?_ ?_ | intro _ | (refine agrd_cases (fun h => ?_) (fun h => ?_) <;> (have h' := h; (try simp at h'); first | done | simp [h, h'] | simp))))
    refine acallT_plain hty (by simp [Ex.a]) ?_
    by_cases ht : te = 0
    · subst ht
      simp [c2, k2, k2', zC]
      (repeat' (first | contradiction | exact .of (by kernel_rfl) | refine And.intro ?_ ?_ | intro _ | (refine agrd_cases (fun h => ?_) (fun h => ?_) <;> (have h' := h; (try simp at h'); first | done | simp [h, h'] | simp))))
    · simp [ht]
      (repeat' (first | contradiction | exact .of (by kernel_rfl) | refine And.intro ?_ ?_ | intro _ | (refine agrd_cases (fun h => ?_) (fun h => ?_) <;> (have h' := h; (try simp at h'); first | done | simp [h, h', ht] | simp [ht]))))
      all_goals simp [zEx, zC, Ex.a, Ex.c, kidsC, ht]
  · simp [Ex.a, c3, k3, k3', he]
    (repeat' (first | contradiction | exact .of (by kernel_rfl) | refine And.intro ?_ ?_ | intro _ | (refine agrd_cases (fun h => ?_) (fun h => ?_) <;> (have h' := h; (try simp at h'); first | done | simp [h, h', he] | simp [he]))))
    all_goals simp [zEx, zC, Ex.a, Ex.c, kidsC, he]
end Go.Proofs.Tryd
/- Terms that are made: the plain law. -/
namespace Go.Proofs.Tryd
open Go.Ab
set_option maxRecDepth 100000
set_option maxHeartbeats 2000000

def nmsT : List (List UInt8) := [[97], [98], [105, 100], [99, 48], [99, 49]]
def qlsT : List (List UInt8) := [[116, 48], [120]]
def valW (L : List Int) (i : Nat) (k : Int) : V := ((valuesOf k)[(1 + nextV L i ((valuesOf k).length - 1)).toNat]?).getD nulV
def nmT (z : Int) : List UInt8 := (nmsT[z.toNat]?).getD []
def qlT (z : Int) : List UInt8 := (qlsT[z.toNat]?).getD []
def leafT (L : List Int) (i : Nat) : Tm × Nat :=
  if nextV L i 6 = 0 then (.mk 1 (1 + nextV L (i + 1) 3) 0 [] [] [], i + 2)
  else if nextV L i 6 = 1 then (.mk 2 0 (valW L (i + 1) 1).n [] [] [], i + 2)
  else if nextV L i 6 = 2 then (.mk 3 0 (nextV L (i + 1) 2) [] [] [], i + 2)
  else if nextV L i 6 = 3 then (.mk 4 0 0 (valW L (i + 1) 3).t [] [], i + 2)
  else if nextV L i 6 = 4 then (.mk 40 0 0 (nmT (nextV L (i + 1) 5)) (qlT (nextV L (i + 2) 2)) [], i + 3)
  else (.mk 40 0 0 (nmT (nextV L (i + 1) 5)) [] [], i + 2)
def kidsT (g : Nat → Tm × Nat) : Nat → Nat → List Tm × Nat
  | 0, s => ([], s)
  | n + 1, s => ((kidsT g n s).1 ++ [(g (kidsT g n s).2).1], (g (kidsT g n s).2).2)
theorem kidsT_len (g : Nat → Tm × Nat) : ∀ (n s : Nat), (kidsT g n s).1.length = n
  | 0, _ => rfl
  | n + 1, s => by simp [kidsT, kidsT_len g n s]
def ndT (g : Nat → Tm × Nat) (op : Int) (n s : Nat) : Tm × Nat := (.mk op 0 0 [] [] (kidsT g n s).1, (kidsT g n s).2)
def nodeT (L : List Int) (g : Nat → Tm × Nat) (i : Nat) : Tm × Nat :=
  if nextV L i 8 = 0 then
    (if nextV L (i + 1) 6 = 0 then (.mk 41 0 1 [] [] [], i + 2) else (.mk 41 0 (1 + nextV L (i + 1) 6) [] [] [(g (i + 2)).1], (g (i + 2)).2))
  else if 6 + nextV L (i + 1) 23 = 11 ∨ 6 + nextV L (i + 1) 23 = 13 ∨ 6 + nextV L (i + 1) 23 = 21 ∨ 6 + nextV L (i + 1) 23 = 24 ∨ 6 + nextV L (i + 1) 23 = 25 then ndT g (6 + nextV L (i + 1) 23) 1 (i + 2)
  else if 6 + nextV L (i + 1) 23 = 26 then ndT g 26 3 (i + 2)
  else if 6 + nextV L (i + 1) 23 = 28 then ndT g 28 (2 + nextV L (i + 2) 3).toNat (i + 3)
  else ndT g (6 + nextV L (i + 1) 23) 2 (i + 2)
def termG (L : List Int) : Nat → Nat → Tm × Nat
  | 0, i => leafT L i
  | d + 1, i => if d = 0 then leafT L i else if nextV L i 4 = 0 then leafT L (i + 1) else nodeT L (termG L d) (i + 1)
def tb : Nat → Nat
  | 0 => 3
  | d + 1 => 10 + 5 * tb d
theorem leafT_le (L : List Int) (i : Nat) : (leafT L i).2 ≤ i + 3 := by
  unfold leafT
  repeat' split
  all_goals simp
theorem kidsT_le (g : Nat → Tm × Nat) (G : Nat) (hle : ∀ j : Nat, j + G ≤ 1000000 → (g j).2 ≤ j + G) : ∀ (n i : Nat), i + n * G ≤ 1000000 → (kidsT g n i).2 ≤ i + n * G
  | 0, i, _ => by simp [kidsT]
  | n + 1, i, h => by
    rw [Nat.succ_mul] at h
    have h1 := kidsT_le g G hle n i (by omega)
    have h2 := hle (kidsT g n i).2 (by omega)
    simp only [kidsT]
    rw [Nat.succ_mul]
    omega
theorem nodeT_le (L : List Int) (g : Nat → Tm × Nat) (G : Nat) (hle : ∀ j : Nat, j + G ≤ 1000000 → (g j).2 ≤ j + G) (i : Nat) (hi : i + 3 + 5 * G ≤ 1000000) : (nodeT L g i).2 ≤ i + 3 + 5 * G := by
  have k : ∀ (op : Int) (n s : Nat), n ≤ 4 → s ≤ i + 3 → (ndT g op n s).2 ≤ i + 3 + 5 * G := fun op n s hn hs => by
    have hm : n * G ≤ 4 * G := Nat.mul_le_mul_right _ hn
    have := kidsT_le g G hle n s (by omega)
    simp only [ndT]; omega
  have h3 := nextV_in L (i + 2) (n := 3) (by omega)
  have h1 := hle (i + 2) (by omega)
  unfold nodeT
  split
  · split
    · simp; omega
    · simp; omega
  split
  · exact k _ 1 _ (by omega) (by omega)
  split
  · exact k _ 3 _ (by omega) (by omega)
  split
  · exact k _ _ _ (by omega) (by omega)
  · exact k _ 2 _ (by omega) (by omega)
theorem termG_le (L : List Int) : ∀ (d i : Nat), i + tb d ≤ 1000000 → (termG L d i).2 ≤ i + tb d
  | 0, i, _ => leafT_le L i
  | d + 1, i, h => by
    have hl := leafT_le L i
    have hl1 := leafT_le L (i + 1)
    simp only [tb] at h ⊢
    rw [termG]
    split
    · omega
    split
    · omega
    · have := nodeT_le L (termG L d) (tb d) (fun j hj => termG_le L d j hj) (i + 1) (by omega)
      omega

/-! Made terms are few. -/
theorem valW_mem (L : List Int) (i : Nat) (k : Int) (h : 2 ≤ (valuesOf k).length) : valW L i k ∈ valuesOf k := by
  have hn := nextV_in L i (n := (valuesOf k).length - 1) (by omega)
  have hlt : (1 + nextV L i ((valuesOf k).length - 1)).toNat < (valuesOf k).length := by omega
  unfold valW
  rw [List.getElem?_eq_getElem hlt]
  exact List.getElem_mem hlt
theorem few_nil (o y n : Int) (t q : List UInt8) (d : Nat) (hd : d ≤ 40) (ht : t.length ≤ 100) (hq : q.length ≤ 100) : (Tm.mk o y n t q []).few d = true := by
  rw [Tm.few, tmsFew]
  simp; omega
theorem nmT_len (z : Int) : (nmT z).length ≤ 100 := by
  have : ∀ x ∈ nmsT, x.length ≤ 100 := by decide
  unfold nmT
  cases h : nmsT[z.toNat]? with
  | none => simp
  | some x => exact this x (List.mem_of_getElem? h)
theorem qlT_len (z : Int) : (qlT z).length ≤ 100 := by
  have : ∀ x ∈ qlsT, x.length ≤ 100 := by decide
  unfold qlT
  cases h : qlsT[z.toNat]? with
  | none => simp
  | some x => exact this x (List.mem_of_getElem? h)
theorem leafT_few (L : List Int) (i d : Nat) (hd : d ≤ 40) : (leafT L i).1.few d = true := by
  have h3 : ∀ x ∈ valuesOf 3, x.t.length ≤ 100 := by decide
  have hv := h3 _ (valW_mem L (i + 1) 3 (by decide))
  unfold leafT
  repeat' split
  all_goals exact few_nil _ _ _ _ _ d hd (by first | exact Nat.zero_le _ | exact hv | exact nmT_len _) (by first | exact Nat.zero_le _ | exact qlT_len _)
theorem few_node (o y n : Int) (ks : List Tm) (d : Nat) (hd : d ≤ 40) (hk : ks.length ≤ 8) (h : ∀ x ∈ ks, x.few ((d + 1 : Nat) : Int) = true) : (Tm.mk o y n [] [] ks).few d = true := by
  rw [Tm.few, tmsFew_all, up1_nat (by omega)]
  simp only [Bool.and_eq_true, decide_eq_true_eq, List.all_eq_true]
  exact ⟨by omega, hk, by simp, by simp, h⟩
theorem kidsT_few (g : Nat → Tm × Nat) (p : Tm → Prop) (h : ∀ j, p (g j).1) : ∀ (n s : Nat), ∀ x ∈ (kidsT g n s).1, p x
  | 0, s, x, hx => by cases hx
  | n + 1, s, x, hx => by
    simp only [kidsT, List.mem_append, List.mem_singleton] at hx
    rcases hx with hx | rfl
    · exact kidsT_few g p h n s x hx
    · exact h _
theorem termG_few (L : List Int) : ∀ (d i q : Nat), q + d ≤ 40 → (termG L d i).1.few q = true
  | 0, i, q, h => leafT_few L i q (by omega)
  | d + 1, i, q, h => by
    have hl := leafT_few L i q (by omega)
    have hl1 := leafT_few L (i + 1) q (by omega)
    have k : ∀ (op : Int) (n s : Nat), n ≤ 4 → (ndT (termG L d) op n s).1.few q = true := fun op n s hn => by
      simp only [ndT]
      exact few_node _ _ _ _ q (by omega) (by rw [kidsT_len]; omega) (kidsT_few _ (fun x => x.few ((q + 1 : Nat) : Int) = true) (fun j => termG_few L d j (q + 1) (by omega)) n s)
    have h3 := nextV_in L (i + 1 + 2) (n := 3) (by omega)
    rw [termG]
    split
    · exact hl
    split
    · exact hl1
    unfold nodeT
    split
    · split
      · exact few_nil _ _ _ _ _ q (by omega) (by simp) (by simp)
      · refine few_node _ _ _ _ q (by omega) (by simp) ?_
        intro x hx
        simp only [List.mem_singleton] at hx
        subst hx
        exact termG_few L d _ (q + 1) (by omega)
    split
    · exact k _ 1 _ (by omega)
    split
    · exact k _ 3 _ (by omega)
    split
    · exact k _ _ _ (by omega)
    · exact k _ 2 _ (by omega)
theorem fits_of_few : ∀ (m : Nat) (x : Tm), SizeOf.sizeOf x < m → ∀ d : Nat, x.few d = true → x.fits
  | 0, _, h, _, _ => absurd h (by omega)
  | m + 1, .mk o y n t q ks, hm, d, h => by
    obtain ⟨hd, hk, ht, hl⟩ := tm_few h
    rw [Tm.fits]
    refine ⟨by omega, ?_⟩
    have : ∀ l : List Tm, (∀ x ∈ l, x.fits) → tmsFits l := by
      intro l
      induction l with
      | nil => intro _; rw [tmsFits]; trivial
      | cons e es ih => intro h; rw [tmsFits]; exact ⟨h e List.mem_cons_self, ih fun x hx => h x (List.mem_cons_of_mem _ hx)⟩
    exact this ks fun x hx => fits_of_few m x (by have := Tm.kid_lt (e := .mk o y n t q ks) (k := x) hx; omega) (d + 1) (hl x hx)
end Go.Proofs.Tryd
