/- Valid statements: the reference's conditions. -/
import Derived.Test.YtlimkhfjidcelaaDoorVrs
set_option linter.all false
namespace Go.Proofs.Tryd
open Go.Ab
set_option maxRecDepth 100000
set_option maxHeartbeats 4000000

theorem agree_nilR {α : Type} {f : α → α → Bool} (l : List α) : agree f l [] = (l.length == 0) := by cases l <;> rfl
theorem eq_blankR (f : Int) (a d s : Bool) (is : List It) (ft : List UInt8) (fq : List Sm) (fn : List UInt8) (js : List Jo) (w g h : List Tm) (ks : List Sm) :
    (Sm.mk f a d s is ft fq fn js w g h ks).eq (.mk f a false false [] [] [] [] [] [] [] [] ks) = (!d && (!s && (is.length == 0 && (ft == [] && (fq.length == 0 && (fn == [] && (js.length == 0 && (w.length == 0 && (g.length == 0 && h.length == 0))))))))) := by
  rw [Sm.eq, smsEq_self ks, josEq_agree, smsEq_agree, agree_nilR, agree_nilR, agree_nilR, agree_nilR, agree_nilR, agree_nilR]
  rw [Bool.eq_iff_iff]
  simp
  grind
theorem r_statement : ∀ (m : Nat) (x : Sm), SizeOf.sizeOf x < m → x.fits → Cf Es 36 [x.a] [] (.d (.bool x.right)) []
  | 0, _, h, _ => absurd h (by omega)
  | m + 1, x, hm, hfit => by
    refine cf_intro mixs (fn := Tryd.f36) (by kernel_rfl) rfl (by kernel_rfl) (by decide) (by simp) ?_
    have hq := fun (a : Sm) (ha : SizeOf.sizeOf a < m) (fa : a.fits) => r_statement m a ha fa
    have hsame := r_same (m + 1) x
    obtain ⟨f, al, d, s, is, ft, fq, fn, js, w, g, h, ks⟩ := x
    have hfq : ∀ a ∈ fq, SizeOf.sizeOf a < m := fun a ha => by
      have := Sm.q_lt (e := .mk f al d s is ft fq fn js w g h ks) ha
      omega
    have hks : ∀ a ∈ ks, SizeOf.sizeOf a < m := fun a ha => by
      have := Sm.kid_lt (e := .mk f al d s is ft fq fn js w g h ks) ha
      omega
    have hjs : ∀ j ∈ js, ∀ a ∈ j.qs, SizeOf.sizeOf a < m := fun j hj a ha => by
      have := Sm.j_lt (e := .mk f al d s is ft fq fn js w g h ks) hj
      have := Jo.q_lt ha
      omega
    have hsame := ups (hsame (.mk f al false false [] [] [] [] [] [] [] [] ks) hm hfit)
    rw [eq_blankR] at hsame
    rw [Sm.fits] at hfit
    obtain ⟨⟨fi1, fi2⟩, ⟨fq1, fq2⟩, ⟨fj1, fj2⟩, ⟨fw1, fw2⟩, ⟨fg1, fg2⟩, ⟨fh1, fh2⟩, fk1, fk2⟩ := hfit
    have e1 := r_sourceOk ft fq fn fun a ha => hq a (hfq a ha) (smsFits_get _ fq2 a ha)
    have e4 := r_rightsF w fw1 fw2
    have e5 := r_rightsF g fg1 fg2
    have e6 := r_rightsF h fh1 fh2
    have ek : ∀ a ∈ ks, Cf Es 36 [a.a] [] (.d (.bool a.right)) [] := fun a ha => hq a (hks a ha) (smsFits_get _ fk2 a ha)
    rw [Sm.right, ← soRight, josRight_all, tmsRight_all, tmsRight_all, tmsRight_all, smsRight_all ks]
    generalize hS : soRight ft fq fn = S at *
    generalize hW : w.all Tm.right = W at *
    generalize hG : g.all Tm.right = G at *
    generalize hH : h.all Tm.right = H at *
    by_cases h1 : f = 1
    · subst h1
      clear hsame ek
      rw [if_pos rfl]
      generalize hI : is.all itRight = I at *
      generalize hJ : js.all Jo.right = J at *
      generalize hR : (!al && (ks.length == 0 && (s == (is.length == 0) && (decide (w.length ≤ 1) && (decide (h.length ≤ 1) && (S && (I && (J && (W && (G && H)))))))))) = R
      by_cases hA : al = false ∧ ks.length = 0 ∧ s = (is.length == 0) ∧ w.length ≤ 1 ∧ h.length ≤ 1
      · obtain ⟨a1, a2, a3, a4, a5⟩ := hA
        have hR' : (S && (I && (J && (W && (G && H))))) = R := by
          rw [← hR, a1, a2, a3]
          simp [a4, a5]
        clear hR
        have b2 : ¬ (0 : Int) < ks.length := by omega
        have b3 : (s == decide (0 < is.length)) = false := by
          rw [a3]
          cases is <;> simp
        have b4 : ¬ (1 : Int) < w.length := by omega
        have b5 : ¬ (1 : Int) < h.length := by omega
        have hli := fi1
        simp [Sm.a, Sm.c, smsC_map, josC_map, a1, a2, b2, b3, b4, b5]
        (repeat refine ⟨.of (by kernel_rfl), ?_⟩)
        refine aloopT mixs (by decide) (fun i : Nat => { s := mkS [(1, .ptr 1 0 0), (4, .d (.int .i64 i))], b := mkB [(1, 1, .var (Sm.a (.mk 1 al d s is ft fq fn js w g h ks)).cells)] }) (fun i : Nat => i ≤ is.length ∧ (is.drop i).all itRight = I) (fun i => is.length - i) 0 (by simp [hI]) (sub_mk _ _ ⟨by simp, by simp, by simp [renOf, Blk.live, Sm.a, Sm.c, smsC_map, josC_map, a1], by simp⟩ (by simp [renOf])) ?_
        rintro i ⟨hi, ho⟩
        by_cases hlt : i < is.length
        · have hlt' : (i : Int) < is.length := by omega
          obtain ⟨x, hg⟩ : ∃ x, is[i]? = some x := ⟨_, List.getElem?_eq_getElem hlt⟩
          have hgi : ∀ h, is[i]'h = x := fun h => (List.getElem?_eq_some_iff.1 hg).2
          rw [all_drop hg] at ho
          have q1 := r_right _ x.t (Nat.lt_succ_self _) (itFits_get fi2 (List.mem_of_getElem? hg))
          have q2 := r_name x.n
          have hbad : itRight x = false → R = false := fun hh => by
            rw [hh, Bool.false_and] at ho
            rw [← hR', ← ho]; simp
          have hgood : itRight x = true → (is.drop (i + 1)).all itRight = I := fun hh => by rw [hh, Bool.true_and] at ho; exact ho
          clear ho
          obtain ⟨⟨o0, y0, n0, t0, q0, ks0⟩, nm⟩ := x
          have hit : itRight ⟨.mk o0 y0 n0 t0 q0 ks0, nm⟩ = ((Tm.mk o0 y0 n0 t0 q0 ks0).right && nameOr nm) := rfl
          rw [hit] at hbad hgood
          simp only at q1 q2
          generalize (Tm.mk o0 y0 n0 t0 q0 ks0).right = X at *
          clear hit
          simp [Sm.a, Sm.c, smsC_map, josC_map, hlt, hlt', hg, hgi, It.c, Tm.c, tmsC_map]
          (repeat refine ⟨.of (by kernel_rfl), ?_⟩)
          refine acallT_plain q1 (by simp [Tm.a, Tm.c, tmsC_map]) ?_
          simp [hlt, hlt', hg, hgi, It.c, Tm.c, tmsC_map]
          (repeat' (first | contradiction | exact .of (by kernel_rfl) | refine And.intro ?_ ?_ | intro _ | (refine agrd_cases (fun h => ?_) (fun h => ?_) <;> (have h' := h; (try simp at h'); first | done | simp [h, h', hlt, hlt', hg, hgi, It.c, Tm.c, tmsC_map] | simp [hlt, hlt', hg, hgi, It.c, Tm.c, tmsC_map]))))
          all_goals first | (refine acallT_plain q2 (by simp) ?_; simp [hlt, hlt', hg, hgi, It.c, Tm.c, tmsC_map]; (repeat' (first | contradiction | exact .of (by kernel_rfl) | refine And.intro ?_ ?_ | intro _ | (refine agrd_cases (fun h => ?_) (fun h => ?_) <;> (have h' := h; (try simp at h'); first | done | simp [h, h', hlt, hlt', hg, hgi, It.c, Tm.c, tmsC_map] | simp [hlt, hlt', hg, hgi, It.c, Tm.c, tmsC_map]))))) | skip
          all_goals first
            | (refine ⟨i + 1, ⟨hlt, hgood ?_⟩, sub_mk _ [(1, 1, _)] ⟨by simp, by simp, by simp [renOf, Blk.live, Sm.a, Sm.c, smsC_map, josC_map], by simp⟩ ?_, ?_⟩
               · clear hbad hgood; simp_all [nameOr]
               · simp [renOf]; exact wrap_in (by omega) (by omega)
               · simp; omega)
            | (apply hbad; clear hbad hgood; simp_all [nameOr]; done)
        · have hlt' : ¬ (i : Int) < is.length := by omega
          rw [all_end (by omega)] at ho
          rw [← ho, Bool.true_and] at hR'
          simp [Sm.a, Sm.c, smsC_map, josC_map, hlt']
          (repeat refine ⟨.of (by kernel_rfl), ?_⟩)
          refine aloopT mixs (by decide) (fun i : Nat => { s := mkS [(1, .ptr 1 0 0), (5, .d (.int .i64 i))], b := mkB [(1, 1, .var (Sm.a (.mk 1 al d s is ft fq fn js w g h ks)).cells)] }) (fun i : Nat => i ≤ js.length ∧ (js.drop i).all Jo.right = J) (fun i => js.length - i) 0 (by simp [hJ]) (sub_mk _ [(1, 1, _)] ⟨by simp, by simp, by simp [renOf, Blk.live, Sm.a, Sm.c, smsC_map, josC_map], by simp⟩ (by simp [renOf])) ?_
          clear hi ho hlt hlt' i
          rintro i ⟨hi, ho⟩
          by_cases hlt : i < js.length
          · have hlt' : (i : Int) < js.length := by omega
            obtain ⟨x, hg⟩ : ∃ x, js[i]? = some x := ⟨_, List.getElem?_eq_getElem hlt⟩
            have hgi : ∀ h, js[i]'h = x := fun h => (List.getElem?_eq_some_iff.1 hg).2
            rw [all_drop hg] at ho
            have hxf := josFits_get _ fj2 x (List.mem_of_getElem? hg)
            have hxq := hjs x (List.mem_of_getElem? hg)
            have hbad : x.right = false → R = false := fun hh => by
              rw [hh, Bool.false_and] at ho
              rw [← hR', ← ho]; simp
            have hgood : x.right = true → (js.drop (i + 1)).all Jo.right = J := fun hh => by rw [hh, Bool.true_and] at ho; exact ho
            clear ho
            obtain ⟨k0, t0, q0, n0, o0⟩ := x
            rw [Jo.fits] at hxf
            have q1 := r_sourceOk t0 q0 n0 fun a ha => hq a (hxq a ha) (smsFits_get _ hxf.1.2 a ha)
            have q2 := r_rightsF o0 hxf.2.1 hxf.2.2
            rw [Jo.right, ← soRight, tmsRight_all] at hbad hgood
            generalize soRight t0 q0 n0 = X at *
            generalize o0.all Tm.right = Y at *
            generalize hol : o0.length = L at *
            simp [Sm.a, Sm.c, smsC_map, josC_map, hlt, hlt', hg, hgi, Jo.c, hol]
            (repeat refine ⟨.of (by kernel_rfl), ?_⟩)
            (repeat' (first | contradiction | exact .of (by kernel_rfl) | refine And.intro ?_ ?_ | intro _ | (refine agrd_cases (fun h => ?_) (fun h => ?_) <;> (have h' := h; (try simp at h'); first | done | simp [h, h', hlt, hlt', hg, hgi, Jo.c, smsC_map, josC_map, hol] | simp [hlt, hlt', hg, hgi, Jo.c, smsC_map, josC_map, hol]))))
            all_goals first | (refine acallT_plain q1 (by simp [soA, soC, smsC_map]) ?_; simp [hlt, hlt', hg, hgi, Jo.c, smsC_map, josC_map]; (repeat' (first | contradiction | exact .of (by kernel_rfl) | refine And.intro ?_ ?_ | intro _ | (refine agrd_cases (fun h => ?_) (fun h => ?_) <;> (have h' := h; (try simp at h'); first | done | simp [h, h', hlt, hlt', hg, hgi, Jo.c, smsC_map, josC_map] | simp [hlt, hlt', hg, hgi, Jo.c, smsC_map, josC_map]))))) | skip
            all_goals first | (refine acallT_plain q2 (by simp) ?_; simp [hlt, hlt', hg, hgi, Jo.c, smsC_map, josC_map]; (repeat' (first | contradiction | exact .of (by kernel_rfl) | refine And.intro ?_ ?_ | intro _ | (refine agrd_cases (fun h => ?_) (fun h => ?_) <;> (have h' := h; (try simp at h'); first | done | simp [h, h', hlt, hlt', hg, hgi, Jo.c, smsC_map, josC_map] | simp [hlt, hlt', hg, hgi, Jo.c, smsC_map, josC_map]))))) | skip
            clear q1 q2 hxf hxq hg hgi hq hfq hks hjs hR' hm
            all_goals first
              | (refine ⟨i + 1, ⟨hlt, hgood ?_⟩, sub_mk _ [(1, 1, _)] ⟨by simp, by simp, by simp [renOf, Blk.live, Sm.a, Sm.c, smsC_map, josC_map], by simp⟩ ?_, ?_⟩
                 · clear hbad hgood; by_cases hk0 : k0 = 0 <;> by_cases hL0 : L = 0 <;> simp_all <;> omega
                 · simp [renOf]; exact wrap_in (by omega) (by omega)
                 · simp; omega)
              | (apply hbad; clear hbad hgood; by_cases hk0 : k0 = 0 <;> by_cases hL0 : L = 0 <;> simp_all <;> (first | omega | (exfalso; have x1 : (k0 == 0) = false := (by simpa using hk0); have x2 : ((L : Int) == 0) = false := (by simp [hL0]); simp only [x1, x2, not_true_eq_false] at *)))
          · have hlt' : ¬ (i : Int) < js.length := by omega
            rw [all_end (by omega)] at ho
            rw [← ho, Bool.true_and] at hR'
            clear ho hI hJ hq hfq hks hjs hi hlt
            simp [Sm.a, Sm.c, smsC_map, josC_map, hlt']
            (repeat refine ⟨.of (by kernel_rfl), ?_⟩)
            refine acallT_plain e1 (by simp [soA, soC, smsC_map]) ?_
            simp [smsC_map, josC_map]
            (repeat' (first | contradiction | exact .of (by kernel_rfl) | refine And.intro ?_ ?_ | intro _ | (refine agrd_cases (fun h => ?_) (fun h => ?_) <;> (have h' := h; (try simp at h'); first | done | simp [h, h', smsC_map, josC_map] | simp [smsC_map, josC_map]))))
            all_goals first | (refine acallT_plain e4 (by simp) ?_; simp [smsC_map, josC_map]; (repeat' (first | contradiction | exact .of (by kernel_rfl) | refine And.intro ?_ ?_ | intro _ | (refine agrd_cases (fun h => ?_) (fun h => ?_) <;> (have h' := h; (try simp at h'); first | done | simp [h, h', smsC_map, josC_map] | simp [smsC_map, josC_map]))))) | skip
            all_goals first | (refine acallT_plain e5 (by simp) ?_; simp [smsC_map, josC_map]; (repeat' (first | contradiction | exact .of (by kernel_rfl) | refine And.intro ?_ ?_ | intro _ | (refine agrd_cases (fun h => ?_) (fun h => ?_) <;> (have h' := h; (try simp at h'); first | done | simp [h, h', smsC_map, josC_map] | simp [smsC_map, josC_map]))))) | skip
            all_goals first | (refine acallT_plain e6 (by simp) ?_; simp [smsC_map, josC_map]; (repeat' (first | contradiction | exact .of (by kernel_rfl) | refine And.intro ?_ ?_ | intro _ | (refine agrd_cases (fun h => ?_) (fun h => ?_) <;> (have h' := h; (try simp at h'); first | done | simp [h, h', smsC_map, josC_map] | simp [smsC_map, josC_map]))))) | skip
            all_goals (rw [← hR']; clear hR'; simp_all)
      · have hRf : R = false := by
          rw [← hR]
          cases hx : (!al && (ks.length == 0 && (s == (is.length == 0) && (decide (w.length ≤ 1) && (decide (h.length ≤ 1) && (S && (I && (J && (W && (G && H)))))))))) with
          | false => rfl
          | true =>
            simp only [Bool.and_eq_true, Bool.not_eq_true', beq_iff_eq, decide_eq_true_eq] at hx
            exact absurd ⟨hx.1, hx.2.1, hx.2.2.1, hx.2.2.2.1, hx.2.2.2.2.1⟩ hA
        subst hRf
        clear hR hq hfq hks hjs e1 e4 e5 e6 hI hJ
        simp [Sm.a, Sm.c, smsC_map, josC_map]
        (repeat' (first | contradiction | exact .of (by kernel_rfl) | refine And.intro ?_ ?_ | intro _ | (refine agrd_cases (fun h => ?_) (fun h => ?_) <;> (have h' := h; (try simp at h'); first | done | simp [h, h', smsC_map, josC_map] | simp [smsC_map, josC_map]))))
        all_goals (exfalso; apply hA; refine ⟨by assumption, by simp_all, ?_, by omega, by omega⟩; cases is <;> cases s <;> simp_all)
    · rw [if_neg h1]
      by_cases h2 : f = 2 ∨ f = 3 ∨ f = 4
      · rw [if_pos h2]
        generalize hB : (!d && (!s && (is.length == 0 && (ft == [] && (fq.length == 0 && (fn == [] && (js.length == 0 && (w.length == 0 && (g.length == 0 && h.length == 0))))))))) = B at *
        match ks, ek, hsame with
        | [], ek, hsame =>
          clear ek hsame e1 e4 e5 e6 hq hfq hks hjs
          rcases h2 with rfl | rfl | rfl
          all_goals simp [Sm.a, Sm.c, smsC_map, josC_map]
          all_goals ((repeat' (first | contradiction | exact .of (by kernel_rfl) | refine And.intro ?_ ?_ | intro _ | (refine agrd_cases (fun h => ?_) (fun h => ?_) <;> (have h' := h; (try simp at h'); first | done | simp [h, h', smsC_map, josC_map] | simp [smsC_map, josC_map])))))
        | [x], ek, hsame =>
          clear ek hsame e1 e4 e5 e6 hq hfq hks hjs
          rcases h2 with rfl | rfl | rfl
          all_goals simp [Sm.a, Sm.c, smsC_map, josC_map]
          all_goals ((repeat' (first | contradiction | exact .of (by kernel_rfl) | refine And.intro ?_ ?_ | intro _ | (refine agrd_cases (fun h => ?_) (fun h => ?_) <;> (have h' := h; (try simp at h'); first | done | simp [h, h', smsC_map, josC_map] | simp [smsC_map, josC_map])))))
        | [x, y], ek, hsame =>
          have q1 := ek x (by simp)
          have q2 := ek y (by simp)
          have c1 := x.clen
          have k1 := x.ctake
          have c2 := y.clen
          have k2 := y.ctake
          simp only [List.all_cons, List.all_nil, Bool.and_true]
          generalize x.right = X at *
          generalize y.right = Y at *
          clear ek e1 e4 e5 e6 hq hfq hks hjs hm fk1 fk2
          rcases h2 with rfl | rfl | rfl
          all_goals simp [Sm.a, Sm.c, smsC_map, josC_map]
          all_goals ((repeat' (first | contradiction | exact .of (by kernel_rfl) | refine And.intro ?_ ?_ | intro _ | (refine agrd_cases (fun h => ?_) (fun h => ?_) <;> (have h' := h; (try simp at h'); first | done | simp [h, h', smsC_map, josC_map] | simp [smsC_map, josC_map])))))
          all_goals first | (refine acallT_plain hsame (by simp [Sm.a, Sm.c, smsC_map, josC_map]) ?_; simp [smsC_map, josC_map, c1, k1, c2, k2]; (repeat' (first | contradiction | exact .of (by kernel_rfl) | refine And.intro ?_ ?_ | intro _ | (refine agrd_cases (fun h => ?_) (fun h => ?_) <;> (have h' := h; (try simp at h'); first | done | simp [h, h', smsC_map, josC_map, c1, k1, c2, k2] | simp [smsC_map, josC_map, c1, k1, c2, k2]))))) | skip
          all_goals first | (refine acallT_plain q1 (by simp [Sm.a]) ?_; simp [smsC_map, josC_map, c1, k1, c2, k2]; (repeat' (first | contradiction | exact .of (by kernel_rfl) | refine And.intro ?_ ?_ | intro _ | (refine agrd_cases (fun h => ?_) (fun h => ?_) <;> (have h' := h; (try simp at h'); first | done | simp [h, h', smsC_map, josC_map, c1, k1, c2, k2] | simp [smsC_map, josC_map, c1, k1, c2, k2]))))) | skip
          all_goals first | (refine acallT_plain q2 (by simp [Sm.a]) ?_; simp [smsC_map, josC_map, c1, k1, c2, k2]; (repeat' (first | contradiction | exact .of (by kernel_rfl) | refine And.intro ?_ ?_ | intro _ | (refine agrd_cases (fun h => ?_) (fun h => ?_) <;> (have h' := h; (try simp at h'); first | done | simp [h, h', smsC_map, josC_map, c1, k1, c2, k2] | simp [smsC_map, josC_map, c1, k1, c2, k2]))))) | skip
          all_goals first | (simp_all; done) | skip
          all_goals trace_state
          all_goals sorry
        | x :: y :: z :: l, ek, hsame =>
          have hl2 : ((l.length : Int) + 1 + 1 + 1 == 2) = false := by simp; omega
          have hl3 : ¬ (l.length : Int) + 1 + 1 + 1 = 2 := by omega
          clear ek hsame e1 e4 e5 e6 hq hfq hks hjs
          rcases h2 with rfl | rfl | rfl
          all_goals simp [Sm.a, Sm.c, smsC_map, josC_map, hl2, hl3]
          all_goals ((repeat' (first | contradiction | exact .of (by kernel_rfl) | refine And.intro ?_ ?_ | intro _ | (refine agrd_cases (fun h => ?_) (fun h => ?_) <;> (have h' := h; (try simp at h'); first | done | simp [h, h', smsC_map, josC_map, hl2, hl3] | simp [smsC_map, josC_map, hl2, hl3])))))
      · have h2' : ¬ f = 2 := fun e => h2 (.inl e)
        have h3' : ¬ f = 3 := fun e => h2 (.inr (.inl e))
        have h4' : ¬ f = 4 := fun e => h2 (.inr (.inr e))
        rw [if_neg h2]
        clear hsame ek e1 e4 e5 e6 hq hfq hks hjs
        have n1 : (f != 1) = true := by simp [h1]
        have n2 : (f == 2) = false := by simp [h2']
        have n3 : (f == 3) = false := by simp [h3']
        have n4 : (f == 4) = false := by simp [h4']
        simp [Sm.a, Sm.c, h1, h2', h3', h4', n1, n2, n3, n4]
        (repeat' (first | contradiction | exact .of (by kernel_rfl) | refine And.intro ?_ ?_ | intro _ | (refine agrd_cases (fun h => ?_) (fun h => ?_) <;> (have h' := h; (try simp at h'); first | done | simp [h, h', h1, h2', h3', h4', n1, n2, n3, n4] | simp [h1, h2', h3', h4', n1, n2, n3, n4]))))
theorem r_valid5 (x : Sm) (hf : x.fits) : Cf Es 10 [x.a] [] (.d (.bool (decide (x.dep ≤ 24) && x.right))) [] := by
  refine cf_intro mixs (fn := Tryd.f10) (by kernel_rfl) rfl (by kernel_rfl) (by decide) (by simp) ?_
  have h1 := r_statement _ x (Nat.lt_succ_self _) hf
  have h2 := ups (r_depth _ x (Nat.lt_succ_self _) hf)
  have c1 := x.clen
  have k1 := x.ctake
  simp [Sm.a, c1, k1]
  (repeat refine ⟨.of (by kernel_rfl), ?_⟩)
  refine acallT_plain h1 (by simp [Sm.a]) ?_
  simp [c1, k1]
  (repeat' (first | contradiction | exact .of (by kernel_rfl) | refine And.intro ?_ ?_ | intro _ | (refine agrd_cases (fun h => ?_) (fun h => ?_) <;> (have h' := h; (try simp at h'); first | done | simp [h, h', c1, k1] | simp [c1, k1]))))
  all_goals first | (refine acallT_plain h2 (by simp [Sm.a]) ?_; simp; (repeat' (first | contradiction | exact .of (by kernel_rfl) | refine And.intro ?_ ?_ | intro _ | (refine agrd_cases (fun h => ?_) (fun h => ?_) <;> (have h' := h; (try simp at h'); first | done | simp [h, h'] | simp))))) | skip
  all_goals simp_all
end Go.Proofs.Tryd
