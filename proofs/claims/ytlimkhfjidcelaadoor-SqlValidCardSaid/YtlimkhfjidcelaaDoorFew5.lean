/- Which terms and statements the law looks at. -/
import Derived.Test.YtlimkhfjidcelaaDoorVrs
import Derived.Test.YtlimkhfjidcelaaDoorSde
set_option linter.all false
namespace Go.Proofs.Tryd
open Go.Ab
set_option maxRecDepth 100000
set_option maxHeartbeats 2000000

mutual
def Tm.few (d : Int) : Tm → Bool
  | .mk _ _ _ t q ks => decide (d ≤ 40) && (decide (ks.length ≤ 8) && (decide (t.length ≤ 100) && (decide (q.length ≤ 100) && tmsFew (up1 d) ks)))
def tmsFew (d : Int) : List Tm → Bool
  | [] => true
  | e :: es => e.few d && tmsFew d es
end
theorem tmsFew_all (d : Int) : ∀ l : List Tm, tmsFew d l = l.all fun e => e.few d
  | [] => by rw [tmsFew]; rfl
  | e :: es => by rw [tmsFew, tmsFew_all d es]; rfl
def tsFew (l : List Tm) : Bool := decide (l.length ≤ 10) && tmsFew 0 l
mutual
def Sm.few (d : Int) : Sm → Bool
  | .mk _ _ _ _ is ft fq fn js w g h ks => decide (d ≤ 30) && (decide (is.length ≤ 10) && (decide (js.length ≤ 8) && (decide (ks.length ≤ 6) && (tsFew w && (tsFew g && (tsFew h &&
      ((decide (fq.length ≤ 6) && (decide (fn.length ≤ 100) && (decide (ft.length ≤ 100) && smsFew (up1 d) fq))) && ((is.all fun i => i.t.few 0) && (josFew d js && smsFew (up1 d) ks)))))))))
def Jo.few (d : Int) : Jo → Bool
  | .mk _ t q n o => tsFew o && (decide (q.length ≤ 6) && (decide (n.length ≤ 100) && (decide (t.length ≤ 100) && smsFew (up1 d) q)))
def smsFew (d : Int) : List Sm → Bool
  | [] => true
  | e :: es => e.few d && smsFew d es
def josFew (d : Int) : List Jo → Bool
  | [] => true
  | e :: es => e.few d && josFew d es
end
theorem smsFew_all (d : Int) : ∀ l : List Sm, smsFew d l = l.all fun e => e.few d
  | [] => by rw [smsFew]; rfl
  | e :: es => by rw [smsFew, smsFew_all d es]; rfl
theorem josFew_all (d : Int) : ∀ l : List Jo, josFew d l = l.all fun e => e.few d
  | [] => by rw [josFew]; rfl
  | e :: es => by rw [josFew, josFew_all d es]; rfl
def soFew (d : Int) (t : List UInt8) (q : List Sm) (n : List UInt8) : Bool := decide (q.length ≤ 6) && (decide (n.length ≤ 100) && (decide (t.length ≤ 100) && smsFew (up1 d) q))
theorem tsFew_len {l : List Tm} (h : tsFew l = true) : l.length ≤ 10 := by
  unfold tsFew at h
  simp only [Bool.and_eq_true, decide_eq_true_eq] at h
  exact h.1
mutual
theorem small_of_few (d : Int) : ∀ x : Sm, x.few d = true → x.small
  | .mk f a dd s is ft fq fn js w g h ks, hx => by
    rw [Sm.few] at hx
    simp only [Bool.and_eq_true, decide_eq_true_eq] at hx
    obtain ⟨_, hi, hj, _, hw, hg, hh, ⟨_, _, _, hq⟩, _, hjs, hks⟩ := hx
    rw [Sm.small]
    exact ⟨hi, hj, tsFew_len hw, tsFew_len hg, tsFew_len hh, smalls_of_few _ fq hq, smallj_of_few _ js hjs, smalls_of_few _ ks hks⟩
theorem smallJ_of_few (d : Int) : ∀ x : Jo, x.few d = true → x.small
  | .mk k t q n o, hx => by
    rw [Jo.few] at hx
    simp only [Bool.and_eq_true, decide_eq_true_eq] at hx
    rw [Jo.small]
    exact ⟨tsFew_len hx.1, smalls_of_few _ q hx.2.2.2.2⟩
theorem smalls_of_few (d : Int) : ∀ l : List Sm, smsFew d l = true → smsSmall l
  | [], _ => by rw [smsSmall]; trivial
  | e :: es, h => by
    rw [smsFew, Bool.and_eq_true] at h
    rw [smsSmall]
    exact ⟨small_of_few d e h.1, smalls_of_few d es h.2⟩
theorem smallj_of_few (d : Int) : ∀ l : List Jo, josFew d l = true → josSmall l
  | [], _ => by rw [josSmall]; trivial
  | e :: es, h => by
    rw [josFew, Bool.and_eq_true] at h
    rw [josSmall]
    exact ⟨smallJ_of_few d e h.1, smallj_of_few d es h.2⟩
end

theorem l_termFew : ∀ (m : Nat) (x : Tm) (d : Int), SizeOf.sizeOf x < m → Cf En 33 [x.a, .d (.int .i64 d)] [] (.d (.bool (x.few d))) []
  | 0, _, _, h => absurd h (by omega)
  | m + 1, .mk o y n t q ks, d, hm => by
    refine cf_intro mix (fn := Tryd.f33) (by kernel_rfl) rfl (by kernel_rfl) (by decide) (by simp) ?_
    have hq := fun (x : Tm) (hx : x ∈ ks) => l_termFew m x (up1 d) (by
      have := Tm.kid_lt (e := .mk o y n t q ks) (k := x) hx
      omega)
    rw [Tm.few, tmsFew_all]
    generalize hR : (ks.all fun e => e.few (up1 d)) = R
    by_cases hA : d ≤ 40 ∧ ks.length ≤ 8 ∧ t.length ≤ 100 ∧ q.length ≤ 100
    · obtain ⟨a1, a2, a3, a4⟩ := hA
      have b1 : ¬ (40 : Int) < d := by omega
      have b2 : ¬ (8 : Int) < ks.length := by omega
      have b3 : ¬ (100 : Int) < t.length := by omega
      have b4 : ¬ (100 : Int) < q.length := by omega
      rw [show (decide (d ≤ 40) && (decide (ks.length ≤ 8) && (decide (t.length ≤ 100) && (decide (q.length ≤ 100) && R)))) = R by simp [a1, a2, a3, a4]]
      simp [Tm.a, Tm.c, tmsC_map, a1, a2, a3, a4, b1, b2, b3, b4]
      (repeat refine ⟨.of (by kernel_rfl), ?_⟩)
      refine aloopT mix (by decide) (fun i : Nat => { s := mkS [(1, .d (.int .i64 d)), (2, .ptr 2 0 0), (5, .d (.int .i64 i))], b := mkB [(2, 2, .var (Tm.a (.mk o y n t q ks)).cells)] }) (fun i : Nat => i ≤ ks.length ∧ ((ks.drop i).all fun e => e.few (up1 d)) = R) (fun i => ks.length - i) 0 (by simp [hR]) (sub_mk _ _ ⟨by simp, by simp, by simp [renOf, Blk.live, Tm.a, Tm.c, tmsC_map], by simp⟩ (by simp [renOf])) ?_
      rintro i ⟨hi, ho⟩
      by_cases hlt : i < ks.length
      · have hlt' : (i : Int) < ks.length := by omega
        obtain ⟨x, hg⟩ : ∃ x, ks[i]? = some x := ⟨_, List.getElem?_eq_getElem hlt⟩
        have hgi : ∀ h, ks[i]'h = x := fun h => (List.getElem?_eq_some_iff.1 hg).2
        rw [all_drop hg] at ho
        have hx := hq x (List.mem_of_getElem? hg)
        have c1 := x.clen
        have k1 := x.ctake
        generalize x.few (up1 d) = X at *
        have hu : up1 d = IntKind.i64.wrap (d + 1) := rfl
        simp [Tm.a, Tm.c, tmsC_map, hlt, hlt', hg, hgi, c1, k1]
        (repeat refine ⟨.of (by kernel_rfl), ?_⟩)
        refine acallT_plain hx (by simp [Tm.a, hu]) ?_
        simp
        refine ⟨.of (by kernel_rfl), fun h => ⟨.of (by kernel_rfl), ?_⟩, fun h => ⟨.of (by kernel_rfl), i + 1, ⟨hlt, ?_⟩, sub_mk _ [(2, 2, _)] ⟨by simp, by simp, by simp [renOf, Blk.live, Tm.a, Tm.c, tmsC_map], by simp⟩ ?_, ?_⟩⟩
        · rw [← ho, h]; rfl
        · rw [← ho, h]; rfl
        · simp [renOf]; exact wrap_in (by omega) (by omega)
        · simp; omega
      · have hlt' : ¬ (i : Int) < ks.length := by omega
        rw [all_end (by omega)] at ho
        simp [Tm.a, Tm.c, tmsC_map, hlt, hlt']
        (repeat refine ⟨.of (by kernel_rfl), ?_⟩)
        exact ho.symm
    · have hF : (decide (d ≤ 40) && (decide (ks.length ≤ 8) && (decide (t.length ≤ 100) && (decide (q.length ≤ 100) && R)))) = false := by
        cases hx : (decide (d ≤ 40) && (decide (ks.length ≤ 8) && (decide (t.length ≤ 100) && (decide (q.length ≤ 100) && R)))) with
        | false => rfl
        | true =>
          simp only [Bool.and_eq_true, decide_eq_true_eq] at hx
          exact absurd ⟨hx.1, hx.2.1, hx.2.2.1, hx.2.2.2.1⟩ hA
      rw [hF]
      clear hF hq hR
      simp [Tm.a, Tm.c, tmsC_map]
      (repeat' (first | contradiction | exact .of (by kernel_rfl) | refine And.intro ?_ ?_ | intro _ | (refine agrd_cases (fun h => ?_) (fun h => ?_) <;> (have h' := h; (try simp at h'); first | done | simp [h, h', tmsC_map] | simp [tmsC_map]))))
      all_goals (exfalso; apply hA; refine ⟨?_, ?_, ?_, ?_⟩ <;> omega)
theorem l_termsFew (l : List Tm) : Cf En 69 [.d (.sl (l.map Tm.c))] [] (.d (.bool (tsFew l))) [] := by
  refine cf_intro mix (fn := Tryd.f69) (by kernel_rfl) rfl (by kernel_rfl) (by decide) (by simp) ?_
  unfold tsFew
  rw [tmsFew_all]
  generalize hR : (l.all fun e => e.few 0) = R
  by_cases hA : l.length ≤ 10
  · have b1 : ¬ (10 : Int) < l.length := by omega
    rw [show (decide (l.length ≤ 10) && R) = R by simp [hA]]
    simp [hA, b1]
    (repeat refine ⟨.of (by kernel_rfl), ?_⟩)
    refine aloopT mix (by decide) (fun i : Nat => { s := mkS [(0, .d (.sl (l.map Tm.c))), (3, .d (.int .i64 i))], b := mkB [] }) (fun i : Nat => i ≤ l.length ∧ ((l.drop i).all fun e => e.few 0) = R) (fun i => l.length - i) 0 (by simp [hR]) (sub_mk _ [] .nil (by simp)) ?_
    rintro i ⟨hi, ho⟩
    by_cases hlt : i < l.length
    · have hlt' : (i : Int) < l.length := by omega
      obtain ⟨x, hg⟩ : ∃ x, l[i]? = some x := ⟨_, List.getElem?_eq_getElem hlt⟩
      have hgi : ∀ h, l[i]'h = x := fun h => (List.getElem?_eq_some_iff.1 hg).2
      rw [all_drop hg] at ho
      have hx := l_termFew _ x 0 (Nat.lt_succ_self _)
      have c1 := x.clen
      have k1 := x.ctake
      generalize x.few 0 = X at *
      simp [hlt, hlt', hg, hgi, c1, k1]
      (repeat refine ⟨.of (by kernel_rfl), ?_⟩)
      refine acallT_plain hx (by simp [Tm.a]) ?_
      simp
      refine ⟨.of (by kernel_rfl), fun h => ⟨.of (by kernel_rfl), ?_⟩, fun h => ⟨.of (by kernel_rfl), i + 1, ⟨hlt, ?_⟩, sub_mk _ [] .nil ?_, ?_⟩⟩
      · rw [← ho, h]; rfl
      · rw [← ho, h]; rfl
      · simp; exact wrap_in (by omega) (by omega)
      · simp; omega
    · have hlt' : ¬ (i : Int) < l.length := by omega
      rw [all_end (by omega)] at ho
      simp [hlt, hlt']
      (repeat refine ⟨.of (by kernel_rfl), ?_⟩)
      exact ho.symm
  · have b1 : (10 : Int) < l.length := by omega
    simp [hA, b1]
    (repeat' (first | contradiction | exact .of (by kernel_rfl) | refine And.intro ?_ ?_ | intro _ | (refine agrd_cases (fun h => ?_) (fun h => ?_) <;> (have h' := h; (try simp at h'); first | done | simp [h, h', b1] | simp [b1]))))
theorem l_sourceFew (t : List UInt8) (q : List Sm) (n : List UInt8) (d : Int) (h : ∀ x ∈ q, Cf En 32 [x.a, .d (.int .i64 (up1 d))] [] (.d (.bool (x.few (up1 d)))) []) :
    Cf En 70 [soA t q n, .d (.int .i64 d)] [] (.d (.bool (soFew d t q n))) [] := by
  refine cf_intro mix (fn := Tryd.f70) (by kernel_rfl) rfl (by kernel_rfl) (by decide) (by simp) ?_
  unfold soFew
  rw [smsFew_all]
  generalize hR : (q.all fun e => e.few (up1 d)) = R
  by_cases hA : q.length ≤ 6 ∧ n.length ≤ 100 ∧ t.length ≤ 100
  · obtain ⟨a1, a2, a3⟩ := hA
    have b1 : ¬ (6 : Int) < q.length := by omega
    have b2 : ¬ (100 : Int) < n.length := by omega
    have b3 : ¬ (100 : Int) < t.length := by omega
    rw [show (decide (q.length ≤ 6) && (decide (n.length ≤ 100) && (decide (t.length ≤ 100) && R))) = R by simp [a1, a2, a3]]
    simp [soA, soC, smsC_map, a1, a2, a3, b1, b2, b3]
    (repeat refine ⟨.of (by kernel_rfl), ?_⟩)
    refine aloopT mix (by decide) (fun i : Nat => { s := mkS [(1, .d (.int .i64 d)), (2, .ptr 2 0 0), (5, .d (.int .i64 i))], b := mkB [(2, 2, .var ((soC t q n).map AV.d))] }) (fun i : Nat => i ≤ q.length ∧ ((q.drop i).all fun e => e.few (up1 d)) = R) (fun i => q.length - i) 0 (by simp [hR]) (sub_mk _ _ ⟨by simp, by simp, by simp [renOf, Blk.live, soC, smsC_map], by simp⟩ (by simp [renOf])) ?_
    rintro i ⟨hi, ho⟩
    by_cases hlt : i < q.length
    · have hlt' : (i : Int) < q.length := by omega
      obtain ⟨x, hg⟩ : ∃ x, q[i]? = some x := ⟨_, List.getElem?_eq_getElem hlt⟩
      have hgi : ∀ h, q[i]'h = x := fun h => (List.getElem?_eq_some_iff.1 hg).2
      rw [all_drop hg] at ho
      have hx := h x (List.mem_of_getElem? hg)
      have c1 := x.clen
      have k1 := x.ctake
      generalize x.few (up1 d) = X at *
      have hu : up1 d = IntKind.i64.wrap (d + 1) := rfl
      simp [soC, smsC_map, hlt, hlt', hg, hgi, c1, k1]
      (repeat refine ⟨.of (by kernel_rfl), ?_⟩)
      refine acallT_plain hx (by simp [Sm.a, hu]) ?_
      simp
      refine ⟨.of (by kernel_rfl), fun h => ⟨.of (by kernel_rfl), ?_⟩, fun h => ⟨.of (by kernel_rfl), i + 1, ⟨hlt, ?_⟩, sub_mk _ [(2, 2, _)] ⟨by simp, by simp, by simp [renOf, Blk.live, soC, smsC_map], by simp⟩ ?_, ?_⟩⟩
      · rw [← ho, h]; rfl
      · rw [← ho, h]; rfl
      · simp [renOf]; exact wrap_in (by omega) (by omega)
      · simp; omega
    · have hlt' : ¬ (i : Int) < q.length := by omega
      rw [all_end (by omega)] at ho
      simp [soC, smsC_map, hlt, hlt']
      (repeat refine ⟨.of (by kernel_rfl), ?_⟩)
      exact ho.symm
  · have hF : (decide (q.length ≤ 6) && (decide (n.length ≤ 100) && (decide (t.length ≤ 100) && R))) = false := by
      cases hx : (decide (q.length ≤ 6) && (decide (n.length ≤ 100) && (decide (t.length ≤ 100) && R))) with
      | false => rfl
      | true =>
        simp only [Bool.and_eq_true, decide_eq_true_eq] at hx
        exact absurd ⟨hx.1, hx.2.1, hx.2.2.1⟩ hA
    rw [hF]
    clear hF h hR
    simp [soA, soC, smsC_map]
    (repeat' (first | contradiction | exact .of (by kernel_rfl) | refine And.intro ?_ ?_ | intro _ | (refine agrd_cases (fun h => ?_) (fun h => ?_) <;> (have h' := h; (try simp at h'); first | done | simp [h, h', smsC_map] | simp [smsC_map]))))
    all_goals (exfalso; apply hA; refine ⟨?_, ?_, ?_⟩ <;> omega)
theorem l_few : ∀ (m : Nat) (x : Sm) (d : Int), SizeOf.sizeOf x < m → Cf En 32 [x.a, .d (.int .i64 d)] [] (.d (.bool (x.few d))) []
  | 0, _, _, h => absurd h (by omega)
  | m + 1, x, d, hm => by
    refine cf_intro mix (fn := Tryd.f32) (by kernel_rfl) rfl (by kernel_rfl) (by decide) (by simp) ?_
    have hq := fun (a : Sm) (ha : SizeOf.sizeOf a < m) (e : Int) => l_few m a e ha
    obtain ⟨f, al, dd, s, is, ft, fq, fn, js, w, g, h, ks⟩ := x
    have hfq : ∀ a ∈ fq, SizeOf.sizeOf a < m := fun a ha => by
      have := Sm.q_lt (e := .mk f al dd s is ft fq fn js w g h ks) ha
      omega
    have hks : ∀ a ∈ ks, SizeOf.sizeOf a < m := fun a ha => by
      have := Sm.kid_lt (e := .mk f al dd s is ft fq fn js w g h ks) ha
      omega
    have hjs : ∀ j ∈ js, ∀ a ∈ j.qs, SizeOf.sizeOf a < m := fun j hj a ha => by
      have := Sm.j_lt (e := .mk f al dd s is ft fq fn js w g h ks) hj
      have := Jo.q_lt ha
      omega
    have e1 := l_sourceFew ft fq fn d fun a ha => hq a (hfq a ha) (up1 d)
    have e4 := l_termsFew w
    have e5 := l_termsFew g
    have e6 := l_termsFew h
    have ek := fun (a : Sm) (ha : a ∈ ks) => hq a (hks a ha) (up1 d)
    rw [Sm.few, ← soFew, josFew_all, smsFew_all _ ks]
    generalize hS : soFew d ft fq fn = S at *
    generalize hW : tsFew w = W at *
    generalize hG : tsFew g = G at *
    generalize hH : tsFew h = H at *
    generalize hI : (is.all fun i => i.t.few 0) = I
    generalize hJ : (js.all fun e => e.few d) = J
    generalize hK : (ks.all fun e => e.few (up1 d)) = K
    generalize hR : (decide (d ≤ 30) && (decide (is.length ≤ 10) && (decide (js.length ≤ 8) && (decide (ks.length ≤ 6) && (W && (G && (H && (S && (I && (J && K)))))))))) = R
    by_cases hA : d ≤ 30 ∧ is.length ≤ 10 ∧ js.length ≤ 8 ∧ ks.length ≤ 6 ∧ W = true ∧ G = true ∧ H = true ∧ S = true
    · obtain ⟨a1, a2, a3, a4, rfl, rfl, rfl, rfl⟩ := hA
      have hR' : (I && (J && K)) = R := by rw [← hR]; simp [a1, a2, a3, a4]
      have b1 : ¬ (30 : Int) < d := by omega
      have b2 : ¬ (10 : Int) < is.length := by omega
      have b3 : ¬ (8 : Int) < js.length := by omega
      have b4 : ¬ (6 : Int) < ks.length := by omega
      clear hR
      simp [Sm.a, Sm.c, smsC_map, josC_map, b1, b2, b3, b4]
      (repeat refine ⟨.of (by kernel_rfl), ?_⟩)
      refine acallT_plain e4 (by simp) ?_
      simp [smsC_map, josC_map, b1, b2, b3, b4]
      refine acallT_plain e5 (by simp) ?_
      simp [smsC_map, josC_map, b1, b2, b3, b4]
      refine acallT_plain e6 (by simp) ?_
      simp [smsC_map, josC_map, b1, b2, b3, b4]
      refine acallT_plain e1 (by simp [soA, soC, smsC_map]) ?_
      simp [smsC_map, josC_map, b1, b2, b3, b4]
      (repeat refine ⟨.of (by kernel_rfl), ?_⟩)
      refine aloopT mix (by decide) (fun i : Nat => { s := mkS [(1, .d (.int .i64 d)), (2, .ptr 2 0 0), (5, .d (.int .i64 i))], b := mkB [(2, 2, .var (Sm.a (.mk f al dd s is ft fq fn js w g h ks)).cells)] }) (fun i : Nat => i ≤ is.length ∧ ((is.drop i).all fun i => i.t.few 0) = I) (fun i => is.length - i) 0 (by simp [hI]) (sub_mk _ _ ⟨by simp, by simp, by simp [renOf, Blk.live, Sm.a, Sm.c, smsC_map, josC_map], by simp⟩ (by simp [renOf])) ?_
      rintro i ⟨hi, ho⟩
      by_cases hlt : i < is.length
      · have hlt' : (i : Int) < is.length := by omega
        obtain ⟨x, hg⟩ : ∃ x, is[i]? = some x := ⟨_, List.getElem?_eq_getElem hlt⟩
        have hgi : ∀ h, is[i]'h = x := fun h => (List.getElem?_eq_some_iff.1 hg).2
        rw [all_drop hg] at ho
        have q1 := l_termFew _ x.t 0 (Nat.lt_succ_self _)
        obtain ⟨⟨o0, y0, n0, t0, q0, ks0⟩, nm⟩ := x
        simp only at q1 ho
        generalize (Tm.mk o0 y0 n0 t0 q0 ks0).few 0 = X at *
        simp [Sm.a, Sm.c, smsC_map, josC_map, hlt, hlt', hg, hgi, It.c, Tm.c, tmsC_map]
        (repeat refine ⟨.of (by kernel_rfl), ?_⟩)
        refine acallT_plain q1 (by simp [Tm.a, Tm.c, tmsC_map]) ?_
        simp
        refine ⟨.of (by kernel_rfl), fun h => ⟨.of (by kernel_rfl), ?_⟩, fun h => ⟨.of (by kernel_rfl), i + 1, ⟨hlt, ?_⟩, sub_mk _ [(2, 2, _)] ⟨by simp, by simp, by simp [renOf, Blk.live, Sm.a, Sm.c, smsC_map, josC_map], by simp⟩ ?_, ?_⟩⟩
        · rw [← hR', ← ho, h]; rfl
        · rw [← ho, h]; rfl
        · simp [renOf]; exact wrap_in (by omega) (by omega)
        · simp; omega
      · have hlt' : ¬ (i : Int) < is.length := by omega
        rw [all_end (by omega)] at ho
        rw [← ho, Bool.true_and] at hR'
        simp [Sm.a, Sm.c, smsC_map, josC_map, hlt']
        (repeat refine ⟨.of (by kernel_rfl), ?_⟩)
        refine aloopT mix (by decide) (fun i : Nat => { s := mkS [(1, .d (.int .i64 d)), (2, .ptr 2 0 0), (6, .d (.int .i64 i))], b := mkB [(2, 2, .var (Sm.a (.mk f al dd s is ft fq fn js w g h ks)).cells)] }) (fun i : Nat => i ≤ js.length ∧ ((js.drop i).all fun e => e.few d) = J) (fun i => js.length - i) 0 (by simp [hJ]) (sub_mk _ [(2, 2, _)] ⟨by simp, by simp, by simp [renOf, Blk.live, Sm.a, Sm.c, smsC_map, josC_map], by simp⟩ (by simp [renOf])) ?_
        clear hi ho hlt hlt' i
        rintro i ⟨hi, ho⟩
        by_cases hlt : i < js.length
        · have hlt' : (i : Int) < js.length := by omega
          obtain ⟨x, hg⟩ : ∃ x, js[i]? = some x := ⟨_, List.getElem?_eq_getElem hlt⟩
          have hgi : ∀ h, js[i]'h = x := fun h => (List.getElem?_eq_some_iff.1 hg).2
          rw [all_drop hg] at ho
          have hxq := hjs x (List.mem_of_getElem? hg)
          obtain ⟨k0, t0, q0, n0, o0⟩ := x
          have q1 := l_sourceFew t0 q0 n0 d fun a ha => hq a (hxq a ha) (up1 d)
          have q2 := l_termsFew o0
          rw [Jo.few, ← soFew] at ho
          generalize soFew d t0 q0 n0 = X at *
          generalize tsFew o0 = Y at *
          simp [Sm.a, Sm.c, smsC_map, josC_map, hlt, hlt', hg, hgi, Jo.c]
          (repeat refine ⟨.of (by kernel_rfl), ?_⟩)
          refine acallT_plain q2 (by simp) ?_
          simp [hlt, hlt', hg, hgi, Jo.c, smsC_map, josC_map]
          (repeat' (first | contradiction | exact .of (by kernel_rfl) | refine And.intro ?_ ?_ | intro _ | (refine agrd_cases (fun h => ?_) (fun h => ?_) <;> (have h' := h; (try simp at h'); first | done | simp [h, h', hlt, hlt', hg, hgi, Jo.c, smsC_map, josC_map] | simp [hlt, hlt', hg, hgi, Jo.c, smsC_map, josC_map]))))
          all_goals first | (refine acallT_plain q1 (by simp [soA, soC, smsC_map]) ?_; simp [hlt, hlt', hg, hgi, Jo.c, smsC_map, josC_map]; (repeat' (first | contradiction | exact .of (by kernel_rfl) | refine And.intro ?_ ?_ | intro _ | (refine agrd_cases (fun h => ?_) (fun h => ?_) <;> (have h' := h; (try simp at h'); first | done | simp [h, h', hlt, hlt', hg, hgi, Jo.c, smsC_map, josC_map] | simp [hlt, hlt', hg, hgi, Jo.c, smsC_map, josC_map]))))) | skip
          clear q1 q2 hxq hg hgi hq hfq hks hjs hm
          all_goals first
            | (refine ⟨i + 1, ⟨hlt, ?_⟩, sub_mk _ [(2, 2, _)] ⟨by simp, by simp, by simp [renOf, Blk.live, Sm.a, Sm.c, smsC_map, josC_map], by simp⟩ ?_, ?_⟩
               · rw [← ho]; clear hR' ho; simp_all
               · simp [renOf]; exact wrap_in (by omega) (by omega)
               · simp; omega)
            | (rw [← hR', ← ho]; clear hR' ho; simp_all; done)
        · have hlt' : ¬ (i : Int) < js.length := by omega
          rw [all_end (by omega)] at ho
          rw [← ho, Bool.true_and] at hR'
          simp [Sm.a, Sm.c, smsC_map, josC_map, hlt']
          (repeat refine ⟨.of (by kernel_rfl), ?_⟩)
          refine aloopT mix (by decide) (fun i : Nat => { s := mkS [(1, .d (.int .i64 d)), (2, .ptr 2 0 0), (7, .d (.int .i64 i))], b := mkB [(2, 2, .var (Sm.a (.mk f al dd s is ft fq fn js w g h ks)).cells)] }) (fun i : Nat => i ≤ ks.length ∧ ((ks.drop i).all fun e => e.few (up1 d)) = K) (fun i => ks.length - i) 0 (by simp [hK]) (sub_mk _ [(2, 2, _)] ⟨by simp, by simp, by simp [renOf, Blk.live, Sm.a, Sm.c, smsC_map, josC_map], by simp⟩ (by simp [renOf])) ?_
          clear hi ho hlt hlt' i
          rintro i ⟨hi, ho⟩
          by_cases hlt : i < ks.length
          · have hlt' : (i : Int) < ks.length := by omega
            obtain ⟨x, hg⟩ : ∃ x, ks[i]? = some x := ⟨_, List.getElem?_eq_getElem hlt⟩
            have hgi : ∀ h, ks[i]'h = x := fun h => (List.getElem?_eq_some_iff.1 hg).2
            rw [all_drop hg] at ho
            have hx := ek x (List.mem_of_getElem? hg)
            have c1 := x.clen
            have k1 := x.ctake
            generalize x.few (up1 d) = X at *
            have hu : up1 d = IntKind.i64.wrap (d + 1) := rfl
            simp [Sm.a, Sm.c, smsC_map, josC_map, hlt, hlt', hg, hgi, c1, k1]
            (repeat refine ⟨.of (by kernel_rfl), ?_⟩)
            refine acallT_plain hx (by simp [Sm.a, hu]) ?_
            simp
            refine ⟨.of (by kernel_rfl), fun h => ⟨.of (by kernel_rfl), ?_⟩, fun h => ⟨.of (by kernel_rfl), i + 1, ⟨hlt, ?_⟩, sub_mk _ [(2, 2, _)] ⟨by simp, by simp, by simp [renOf, Blk.live, Sm.a, Sm.c, smsC_map, josC_map], by simp⟩ ?_, ?_⟩⟩
            · rw [← hR', ← ho, h]; rfl
            · rw [← ho, h]; rfl
            · simp [renOf]; exact wrap_in (by omega) (by omega)
            · simp; omega
          · have hlt' : ¬ (i : Int) < ks.length := by omega
            rw [all_end (by omega)] at ho
            simp [Sm.a, Sm.c, smsC_map, josC_map, hlt, hlt']
            (repeat refine ⟨.of (by kernel_rfl), ?_⟩)
            rw [← hR', ← ho]
    · have hF : R = false := by
        rw [← hR]
        cases hx : (decide (d ≤ 30) && (decide (is.length ≤ 10) && (decide (js.length ≤ 8) && (decide (ks.length ≤ 6) && (W && (G && (H && (S && (I && (J && K)))))))))) with
        | false => rfl
        | true =>
          simp only [Bool.and_eq_true, decide_eq_true_eq] at hx
          exact absurd ⟨hx.1, hx.2.1, hx.2.2.1, hx.2.2.2.1, hx.2.2.2.2.1, hx.2.2.2.2.2.1, hx.2.2.2.2.2.2.1, hx.2.2.2.2.2.2.2.1⟩ hA
      rw [hF]
      clear hF hR hI hJ hK hq hfq hks hjs hm ek
      simp [Sm.a, Sm.c, smsC_map, josC_map]
      (repeat' (first | contradiction | exact .of (by kernel_rfl) | refine And.intro ?_ ?_ | intro _ | (refine agrd_cases (fun h => ?_) (fun h => ?_) <;> (have h' := h; (try simp at h'); first | done | simp [h, h', smsC_map, josC_map] | simp [smsC_map, josC_map]))))
      all_goals first | (refine acallT_plain e4 (by simp) ?_; simp [smsC_map, josC_map]; (repeat' (first | contradiction | exact .of (by kernel_rfl) | refine And.intro ?_ ?_ | intro _ | (refine agrd_cases (fun h => ?_) (fun h => ?_) <;> (have h' := h; (try simp at h'); first | done | simp [h, h', smsC_map, josC_map] | simp [smsC_map, josC_map]))))) | skip
      all_goals first | (refine acallT_plain e5 (by simp) ?_; simp [smsC_map, josC_map]; (repeat' (first | contradiction | exact .of (by kernel_rfl) | refine And.intro ?_ ?_ | intro _ | (refine agrd_cases (fun h => ?_) (fun h => ?_) <;> (have h' := h; (try simp at h'); first | done | simp [h, h', smsC_map, josC_map] | simp [smsC_map, josC_map]))))) | skip
      all_goals first | (refine acallT_plain e6 (by simp) ?_; simp [smsC_map, josC_map]; (repeat' (first | contradiction | exact .of (by kernel_rfl) | refine And.intro ?_ ?_ | intro _ | (refine agrd_cases (fun h => ?_) (fun h => ?_) <;> (have h' := h; (try simp at h'); first | done | simp [h, h', smsC_map, josC_map] | simp [smsC_map, josC_map]))))) | skip
      all_goals first | (refine acallT_plain e1 (by simp [soA, soC, smsC_map]) ?_; simp [smsC_map, josC_map]; (repeat' (first | contradiction | exact .of (by kernel_rfl) | refine And.intro ?_ ?_ | intro _ | (refine agrd_cases (fun h => ?_) (fun h => ?_) <;> (have h' := h; (try simp at h'); first | done | simp [h, h', smsC_map, josC_map] | simp [smsC_map, josC_map]))))) | skip
      all_goals first | (exfalso; apply hA; simp_all; done) | (exfalso; apply hA; simp_all; omega)
end Go.Proofs.Tryd
