/- Valid statements: the program's conditions. -/
import Derived.Test.YtlimkhfjidcelaaDoorVfs
import Derived.Test.YtlimkhfjidcelaaDoorSqt
import Derived.Test.YtlimkhfjidcelaaDoorSde
set_option linter.all false
namespace Go.Proofs.Tryd
open Go.Ab
set_option maxRecDepth 100000
set_option maxHeartbeats 2000000

theorem agree_nil {α : Type} {f : α → α → Bool} (l : List α) : agree f l [] = (l.length == 0) := by cases l <;> rfl
theorem eq_blank (f : Int) (a d s : Bool) (is : List It) (ft : List UInt8) (fq : List Sm) (fn : List UInt8) (js : List Jo) (w g h : List Tm) (ks : List Sm) :
    (Sm.mk f a d s is ft fq fn js w g h ks).eq (.mk f a false false [] [] [] [] [] [] [] [] ks) = (!d && (!s && (is.length == 0 && (ft == [] && (fq.length == 0 && (fn == [] && (js.length == 0 && (w.length == 0 && (g.length == 0 && h.length == 0))))))))) := by
  rw [Sm.eq, smsEq_self ks, josEq_agree, smsEq_agree, agree_nil, agree_nil, agree_nil, agree_nil, agree_nil, agree_nil]
  rw [Bool.eq_iff_iff]
  simp
  grind
theorem s_optional (s : List UInt8) : Cf Es 75 [.d (.str s)] [] (.d (.bool (nameOr s))) [] := by
  refine cf_intro mixs (fn := Tryd.f75) (by kernel_rfl) rfl (by kernel_rfl) (by decide) (by simp) ?_
  have hn := s_name s
  unfold nameOr
  simp
  (repeat' (first | contradiction | exact .of (by kernel_rfl) | refine And.intro ?_ ?_ | intro _ | (refine agrd_cases (fun h => ?_) (fun h => ?_) <;> (have h' := h; (try simp at h'); first | done | simp [h, h'] | simp))))
  all_goals first | (refine acallT_plain hn (by simp) ?_; simp; (repeat' (first | contradiction | exact .of (by kernel_rfl) | refine And.intro ?_ ?_ | intro _ | (refine agrd_cases (fun h => ?_) (fun h => ?_) <;> (have h' := h; (try simp at h'); first | done | simp [h, h'] | simp))))) | skip
  all_goals simp_all
theorem s_itemOk (x : It) (hx : x.t.fits) : Cf Es 74 [x.a] [] (.d (.bool (itRight x))) [] := by
  refine cf_intro mixs (fn := Tryd.f74) (by kernel_rfl) rfl (by kernel_rfl) (by decide) (by simp) ?_
  have h1 := s_formed _ x.t (Nat.lt_succ_self _) hx
  have h2 := s_optional x.n
  obtain ⟨⟨o, y, n, t, q, ks⟩, nm⟩ := x
  unfold itRight
  simp only at h1 h2 ⊢
  generalize hR : (Tm.mk o y n t q ks).right = R at *
  simp [It.a, It.c, Tm.c, tmsC_map]
  refine ⟨.of (by kernel_rfl), ?_⟩
  refine acallT_plain h1 (by simp [Tm.a, Tm.c, tmsC_map]) ?_
  simp
  (repeat' (first | contradiction | exact .of (by kernel_rfl) | refine And.intro ?_ ?_ | intro _ | (refine agrd_cases (fun h => ?_) (fun h => ?_) <;> (have h' := h; (try simp at h'); first | done | simp [h, h'] | simp))))
  all_goals first | (refine acallT_plain h2 (by simp) ?_; simp; (repeat' (first | contradiction | exact .of (by kernel_rfl) | refine And.intro ?_ ?_ | intro _ | (refine agrd_cases (fun h => ?_) (fun h => ?_) <;> (have h' := h; (try simp at h'); first | done | simp [h, h'] | simp))))) | skip
  all_goals simp_all
theorem s_sourceOk (t : List UInt8) (q : List Sm) (n : List UInt8) (h : ∀ x ∈ q, Cf Es 35 [x.a] [] (.d (.bool x.right)) []) :
    Cf Es 72 [soA t q n] [] (.d (.bool (soRight t q n))) [] := by
  refine cf_intro mixs (fn := Tryd.f72) (by kernel_rfl) rfl (by kernel_rfl) (by decide) (by simp) ?_
  have h1 := s_name t
  have h2 := s_optional n
  have h3 := s_name n
  unfold soRight
  match q, h with
  | [], _ =>
    simp [soA, soC, smsC]
    (repeat refine ⟨.of (by kernel_rfl), ?_⟩)
    refine acallT_plain h1 (by simp) ?_
    simp
    (repeat' (first | contradiction | exact .of (by kernel_rfl) | refine And.intro ?_ ?_ | intro _ | (refine agrd_cases (fun h => ?_) (fun h => ?_) <;> (have h' := h; (try simp at h'); first | done | simp [h, h'] | simp))))
    all_goals first | (refine acallT_plain h2 (by simp) ?_; simp; (repeat' (first | contradiction | exact .of (by kernel_rfl) | refine And.intro ?_ ?_ | intro _ | (refine agrd_cases (fun h => ?_) (fun h => ?_) <;> (have h' := h; (try simp at h'); first | done | simp [h, h'] | simp))))) | skip
    all_goals simp_all
  | [x], h =>
    have h4 := h x List.mem_cons_self
    have c1 := x.clen
    have k1 := x.ctake
    rw [smsRight, smsRight]
    generalize hR : x.right = R at *
    simp [soA, soC, smsC, c1, k1]
    (repeat' (first | contradiction | exact .of (by kernel_rfl) | refine And.intro ?_ ?_ | intro _ | (refine agrd_cases (fun h => ?_) (fun h => ?_) <;> (have h' := h; (try simp at h'); first | done | simp [h, h', c1, k1] | simp [c1, k1]))))
    all_goals first | (refine acallT_plain h3 (by simp) ?_; simp [c1, k1]; (repeat' (first | contradiction | exact .of (by kernel_rfl) | refine And.intro ?_ ?_ | intro _ | (refine agrd_cases (fun h => ?_) (fun h => ?_) <;> (have h' := h; (try simp at h'); first | done | simp [h, h', c1, k1] | simp [c1, k1]))))) | skip
    all_goals first | (refine acallT_plain h4 (by simp [Sm.a]) ?_; simp; (repeat' (first | contradiction | exact .of (by kernel_rfl) | refine And.intro ?_ ?_ | intro _ | (refine agrd_cases (fun h => ?_) (fun h => ?_) <;> (have h' := h; (try simp at h'); first | done | simp [h, h'] | simp))))) | skip
    all_goals simp_all
  | x :: y :: l, _ =>
    have hl : ¬ (l.length : Int) + 1 + 1 = 0 := by omega
    have hl1 : ((l.length : Int) + 1 + 1 == 1) = false := by simp; omega
    have hl0 : ((l.length : Int) + 1 + 1 == 0) = false := by simp; omega
    simp [soA, soC, smsC, smsC_map, hl, hl1, hl0]
    (repeat' (first | contradiction | exact .of (by kernel_rfl) | refine And.intro ?_ ?_ | intro _ | (refine agrd_cases (fun h => ?_) (fun h => ?_) <;> (have h' := h; (try simp at h'); first | done | simp [h, h', hl, hl1, hl0] | simp [hl, hl1, hl0]))))
theorem s_joinOk (x : Jo) (hx : x.fits) (h : ∀ y ∈ x.qs, Cf Es 35 [y.a] [] (.d (.bool y.right)) []) : Cf Es 77 [x.a] [] (.d (.bool x.right)) [] := by
  refine cf_intro mixs (fn := Tryd.f77) (by kernel_rfl) rfl (by kernel_rfl) (by decide) (by simp) ?_
  obtain ⟨k, t, q, n, o⟩ := x
  rw [Jo.fits] at hx
  have h1 := all_T 39 Tm.right o hx.2.1 fun x hx' => s_formed _ x (Nat.lt_succ_self _) (tmsFits_get _ hx.2.2 x hx')
  have h2 := s_sourceOk t q n h
  rw [Jo.right, ← soRight, tmsRight_all]
  generalize hO : o.all Tm.right = O at *
  generalize hS : soRight t q n = S at *
  generalize hL : o.length = L at *
  by_cases hk : k = 0
  · subst hk
    simp [Jo.a, Jo.c, hL]
    (repeat' (first | contradiction | exact .of (by kernel_rfl) | refine And.intro ?_ ?_ | intro _ | (refine agrd_cases (fun h => ?_) (fun h => ?_) <;> (have h' := h; (try simp at h'); first | done | simp [h, h', hL] | simp [hL]))))
    all_goals first | (refine acallT_plain h1 (by simp) ?_; simp; (repeat' (first | contradiction | exact .of (by kernel_rfl) | refine And.intro ?_ ?_ | intro _ | (refine agrd_cases (fun h => ?_) (fun h => ?_) <;> (have h' := h; (try simp at h'); first | done | simp [h, h'] | simp))))) | skip
    all_goals first | (refine acallT_plain h2 (by simp [soA, soC]) ?_; simp; (repeat' (first | contradiction | exact .of (by kernel_rfl) | refine And.intro ?_ ?_ | intro _ | (refine agrd_cases (fun h => ?_) (fun h => ?_) <;> (have h' := h; (try simp at h'); first | done | simp [h, h'] | simp))))) | skip
    all_goals first | (simp_all; done) | (simp_all; omega)
  · simp [Jo.a, Jo.c, hL, hk]
    (repeat' (first | contradiction | exact .of (by kernel_rfl) | refine And.intro ?_ ?_ | intro _ | (refine agrd_cases (fun h => ?_) (fun h => ?_) <;> (have h' := h; (try simp at h'); first | done | simp [h, h', hL, hk] | simp [hL, hk]))))
    all_goals first | (refine acallT_plain h1 (by simp) ?_; simp; (repeat' (first | contradiction | exact .of (by kernel_rfl) | refine And.intro ?_ ?_ | intro _ | (refine agrd_cases (fun h => ?_) (fun h => ?_) <;> (have h' := h; (try simp at h'); first | done | simp [h, h'] | simp))))) | skip
    all_goals first | (refine acallT_plain h2 (by simp [soA, soC]) ?_; simp; (repeat' (first | contradiction | exact .of (by kernel_rfl) | refine And.intro ?_ ?_ | intro _ | (refine agrd_cases (fun h => ?_) (fun h => ?_) <;> (have h' := h; (try simp at h'); first | done | simp [h, h'] | simp))))) | skip
    all_goals first | (simp_all; done) | (simp_all; omega)
theorem s_written : ∀ (m : Nat) (x : Sm), SizeOf.sizeOf x < m → x.fits → Cf Es 35 [x.a] [] (.d (.bool x.right)) []
  | 0, _, h, _ => absurd h (by omega)
  | m + 1, x, hm, hfit => by
    refine cf_intro mixs (fn := Tryd.f35) (by kernel_rfl) rfl (by kernel_rfl) (by decide) (by simp) ?_
    have hq := fun (a : Sm) (ha : SizeOf.sizeOf a < m) (fa : a.fits) => s_written m a ha fa
    have hsame := s_same (m + 1) x
    obtain ⟨f, al, d, s, is, ft, fq, fn, js, w, g, h, ks⟩ := x
    have hfq : ∀ a ∈ fq, SizeOf.sizeOf a < m := fun a ha => by
      have := Sm.q_lt (e := .mk f al d s is ft fq fn js w g h ks) ha
      omega
    have hks : ∀ a ∈ ks, SizeOf.sizeOf a < m := fun a ha => by
      have := Sm.kid_lt (e := .mk f al d s is ft fq fn js w g h ks) ha
      omega
    have hjs : ∀ j ∈ js, ∀ a ∈ j.qs, SizeOf.sizeOf a < m := fun j hj a ha => by
      have := Sm.j_lt (e := .mk f al d s is ft fq fn js w g h ks) hj
      have := Jo.q_lt ha
      omega
    have hsame := ups (hsame (.mk f al false false [] [] [] [] [] [] [] [] ks) hm hfit)
    rw [eq_blank] at hsame
    rw [Sm.fits] at hfit
    obtain ⟨⟨fi1, fi2⟩, ⟨fq1, fq2⟩, ⟨fj1, fj2⟩, ⟨fw1, fw2⟩, ⟨fg1, fg2⟩, ⟨fh1, fh2⟩, fk1, fk2⟩ := hfit
    have form := fun (x : Tm) (fx : x.fits) => s_formed _ x (Nat.lt_succ_self _) fx
    have e1 := s_sourceOk ft fq fn fun a ha => hq a (hfq a ha) (smsFits_get _ fq2 a ha)
    have e2 := all_I 74 itRight is fi1 fun x hx => s_itemOk x (itFits_get fi2 hx)
    have e3 := all_J 77 Jo.right js fj1 fun x hx => by
      have h1 := josFits_get _ fj2 x hx
      refine s_joinOk x h1 fun a ha => hq a (hjs x hx a ha) ?_
      obtain ⟨k, t, q, n, o⟩ := x
      rw [Jo.fits] at h1
      exact smsFits_get _ h1.1.2 a ha
    have e4 := all_T 39 Tm.right w fw1 fun x hx => form x (tmsFits_get _ fw2 x hx)
    have e5 := all_T 39 Tm.right g fg1 fun x hx => form x (tmsFits_get _ fg2 x hx)
    have e6 := all_T 39 Tm.right h fh1 fun x hx => form x (tmsFits_get _ fh2 x hx)
    have e7 := all_S 35 Sm.right ks fk1 fun a ha => hq a (hks a ha) (smsFits_get _ fk2 a ha)
    rw [Sm.right, ← soRight, josRight_all, tmsRight_all, tmsRight_all, tmsRight_all, smsRight_all ks]
    generalize hS : soRight ft fq fn = S at *
    generalize hI : is.all itRight = I at *
    generalize hJ : js.all Jo.right = J at *
    generalize hW : w.all Tm.right = W at *
    generalize hG : g.all Tm.right = G at *
    generalize hH : h.all Tm.right = H at *
    generalize hK : ks.all Sm.right = K at *
    clear hq hfq hks hjs hm fi1 fi2 fq1 fq2 fj1 fj2 fw1 fw2 fg1 fg2 fh1 fh2 fk1 fk2 form
    by_cases h1 : f = 1
    · subst h1
      clear hsame
      generalize hlk : ks.length = lk
      generalize hli : is.length = li
      generalize hlw : w.length = lw
      generalize hlh : h.length = lh
      rw [show (li == 0) = ((li : Int) == 0) by rw [Bool.eq_iff_iff]; simp]
      simp [Sm.a, Sm.c, smsC_map, josC_map, hlk, hli, hlw, hlh]
      (repeat' (first | contradiction | exact .of (by kernel_rfl) | refine And.intro ?_ ?_ | intro _ | (refine agrd_cases (fun h => ?_) (fun h => ?_) <;> (have h' := h; (try simp at h'); first | done | simp [h, h', smsC_map, josC_map, hlk, hli, hlw, hlh] | simp [smsC_map, josC_map, hlk, hli, hlw, hlh]))))
      all_goals first | (refine acallT_plain e1 (by simp [soA, soC, smsC_map]) ?_; simp [josC_map, smsC_map]; (repeat' (first | contradiction | exact .of (by kernel_rfl) | refine And.intro ?_ ?_ | intro _ | (refine agrd_cases (fun h => ?_) (fun h => ?_) <;> (have h' := h; (try simp at h'); first | done | simp [h, h', josC_map, smsC_map] | simp [josC_map, smsC_map]))))) | skip
      all_goals first | (refine acallT_plain e2 (by simp) ?_; simp [josC_map, smsC_map]; (repeat' (first | contradiction | exact .of (by kernel_rfl) | refine And.intro ?_ ?_ | intro _ | (refine agrd_cases (fun h => ?_) (fun h => ?_) <;> (have h' := h; (try simp at h'); first | done | simp [h, h', josC_map, smsC_map] | simp [josC_map, smsC_map]))))) | skip
      all_goals first | (refine acallT_plain e3 (by simp) ?_; simp [josC_map, smsC_map]; (repeat' (first | contradiction | exact .of (by kernel_rfl) | refine And.intro ?_ ?_ | intro _ | (refine agrd_cases (fun h => ?_) (fun h => ?_) <;> (have h' := h; (try simp at h'); first | done | simp [h, h', josC_map, smsC_map] | simp [josC_map, smsC_map]))))) | skip
      all_goals first | (refine acallT_plain e4 (by simp) ?_; simp [josC_map, smsC_map]; (repeat' (first | contradiction | exact .of (by kernel_rfl) | refine And.intro ?_ ?_ | intro _ | (refine agrd_cases (fun h => ?_) (fun h => ?_) <;> (have h' := h; (try simp at h'); first | done | simp [h, h', josC_map, smsC_map] | simp [josC_map, smsC_map]))))) | skip
      all_goals first | (refine acallT_plain e5 (by simp) ?_; simp [josC_map, smsC_map]; (repeat' (first | contradiction | exact .of (by kernel_rfl) | refine And.intro ?_ ?_ | intro _ | (refine agrd_cases (fun h => ?_) (fun h => ?_) <;> (have h' := h; (try simp at h'); first | done | simp [h, h', josC_map, smsC_map] | simp [josC_map, smsC_map]))))) | skip
      all_goals first | (refine acallT_plain e6 (by simp) ?_; simp [josC_map, smsC_map]; (repeat' (first | contradiction | exact .of (by kernel_rfl) | refine And.intro ?_ ?_ | intro _ | (refine agrd_cases (fun h => ?_) (fun h => ?_) <;> (have h' := h; (try simp at h'); first | done | simp [h, h', josC_map, smsC_map] | simp [josC_map, smsC_map]))))) | skip
      all_goals first | (simp_all; done) | (simp_all; omega) | (by_cases b1 : lw ≤ 1 <;> by_cases b2 : lh ≤ 1 <;> simp_all <;> done) | (by_cases b1 : lw ≤ 1 <;> by_cases b2 : lh ≤ 1 <;> simp_all <;> omega)
    · by_cases h2 : f = 2 ∨ f = 3 ∨ f = 4
      · rw [if_neg h1, if_pos h2]
        generalize hB : (!d && (!s && (is.length == 0 && (ft == [] && (fq.length == 0 && (fn == [] && (js.length == 0 && (w.length == 0 && (g.length == 0 && h.length == 0))))))))) = B at *
        generalize hlk : ks.length = lk
        rcases h2 with rfl | rfl | rfl
        all_goals simp [Sm.a, Sm.c, smsC_map, josC_map, hlk]
        all_goals ((repeat' (first | contradiction | exact .of (by kernel_rfl) | refine And.intro ?_ ?_ | intro _ | (refine agrd_cases (fun h => ?_) (fun h => ?_) <;> (have h' := h; (try simp at h'); first | done | simp [h, h', smsC_map, josC_map, hlk] | simp [smsC_map, josC_map, hlk])))))
        all_goals first | (refine acallT_plain e7 (by simp) ?_; simp [josC_map, smsC_map]; (repeat' (first | contradiction | exact .of (by kernel_rfl) | refine And.intro ?_ ?_ | intro _ | (refine agrd_cases (fun h => ?_) (fun h => ?_) <;> (have h' := h; (try simp at h'); first | done | simp [h, h', josC_map, smsC_map] | simp [josC_map, smsC_map]))))) | skip
        all_goals first | (refine acallT_plain hsame (by simp [Sm.a, Sm.c, josC_map, smsC_map]) ?_; simp [josC_map, smsC_map]; (repeat' (first | contradiction | exact .of (by kernel_rfl) | refine And.intro ?_ ?_ | intro _ | (refine agrd_cases (fun h => ?_) (fun h => ?_) <;> (have h' := h; (try simp at h'); first | done | simp [h, h', josC_map, smsC_map] | simp [josC_map, smsC_map]))))) | skip
        all_goals first | (simp_all; done) | (simp_all; omega)
      · have h2' : ¬ f = 2 := fun e => h2 (.inl e)
        have h3' : ¬ f = 3 := fun e => h2 (.inr (.inl e))
        have h4' : ¬ f = 4 := fun e => h2 (.inr (.inr e))
        rw [if_neg h1, if_neg h2]
        simp [Sm.a, Sm.c, h1, h2', h3', h4']
        (repeat' (first | contradiction | exact .of (by kernel_rfl) | refine And.intro ?_ ?_ | intro _ | (refine agrd_cases (fun h => ?_) (fun h => ?_) <;> (have h' := h; (try simp at h'); first | done | simp [h, h', h1, h2', h3', h4'] | simp [h1, h2', h3', h4']))))
theorem s_valid (x : Sm) (hf : x.fits) (hs : x.small) : Cf Es 9 [x.a] [] (.d (.bool (decide (x.dep ≤ 24) && x.right))) [] := by
  refine cf_intro mixs (fn := Tryd.f9) (by kernel_rfl) rfl (by kernel_rfl) (by decide) (by simp) ?_
  have h1 := ups (s_depth _ x (Nat.lt_succ_self _) hf hs)
  have h2 := s_written _ x (Nat.lt_succ_self _) hf
  have c1 := x.clen
  have k1 := x.ctake
  simp [Sm.a, c1, k1]
  (repeat refine ⟨.of (by kernel_rfl), ?_⟩)
  refine acallT_plain h1 (by simp [Sm.a]) ?_
  simp [c1, k1]
  (repeat' (first | contradiction | exact .of (by kernel_rfl) | refine And.intro ?_ ?_ | intro _ | (refine agrd_cases (fun h => ?_) (fun h => ?_) <;> (have h' := h; (try simp at h'); first | done | simp [h, h', c1, k1] | simp [c1, k1]))))
  all_goals first | (refine acallT_plain h2 (by simp [Sm.a]) ?_; simp; (repeat' (first | contradiction | exact .of (by kernel_rfl) | refine And.intro ?_ ?_ | intro _ | (refine agrd_cases (fun h => ?_) (fun h => ?_) <;> (have h' := h; (try simp at h'); first | done | simp [h, h'] | simp))))) | skip
  all_goals simp_all
theorem s_validTerm (x : Tm) (hf : x.fits) : Cf Es 11 [x.a] [] (.d (.bool (decide (x.dep ≤ 24) && x.right))) [] := by
  refine cf_intro mixs (fn := Tryd.f11) (by kernel_rfl) rfl (by kernel_rfl) (by decide) (by simp) ?_
  have h1 := ups (s_termDepth _ x (Nat.lt_succ_self _) hf)
  have h2 := s_formed _ x (Nat.lt_succ_self _) hf
  have c1 := x.clen
  have k1 := x.ctake
  simp [Tm.a, c1, k1]
  (repeat refine ⟨.of (by kernel_rfl), ?_⟩)
  refine acallT_plain h1 (by simp [Tm.a]) ?_
  simp [c1, k1]
  (repeat' (first | contradiction | exact .of (by kernel_rfl) | refine And.intro ?_ ?_ | intro _ | (refine agrd_cases (fun h => ?_) (fun h => ?_) <;> (have h' := h; (try simp at h'); first | done | simp [h, h', c1, k1] | simp [c1, k1]))))
  all_goals first | (refine acallT_plain h2 (by simp [Tm.a]) ?_; simp; (repeat' (first | contradiction | exact .of (by kernel_rfl) | refine And.intro ?_ ?_ | intro _ | (refine agrd_cases (fun h => ?_) (fun h => ?_) <;> (have h' := h; (try simp at h'); first | done | simp [h, h'] | simp))))) | skip
  all_goals simp_all
end Go.Proofs.Tryd
