/- Terms and statements: the program's Same. -/
import Derived.Test.YtlimkhfjidcelaaDoorSqe
set_option linter.all false
namespace Go.Proofs.Tryd
open Go.Ab

mutual
/-- Lists that a program can hold. -/
def Tm.fits : Tm → Prop
  | .mk _ _ _ _ _ ks => ks.length ≤ 9223372036854775807 ∧ tmsFits ks
def tmsFits : List Tm → Prop
  | [] => True
  | e :: es => e.fits ∧ tmsFits es
end
theorem tmsFits_get : ∀ l : List Tm, tmsFits l → ∀ e ∈ l, e.fits
  | x :: xs, h, e, he => by
    rw [tmsFits] at h
    rcases List.mem_cons.1 he with rfl | he
    · exact h.1
    · exact tmsFits_get xs h.2 e he

theorem s_sameTerm : ∀ (m : Nat) (x y : Tm), SizeOf.sizeOf x < m → x.fits → Cf En 15 [x.a, y.a] [] (.d (.bool (x.eq y))) []
  | 0, _, _, h, _ => absurd h (by omega)
  | m + 1, .mk o y n t q ks, .mk o' y' n' t' q' ks', hm, hfit => by
    refine cf_intro mix (fn := Tryd.f15) (by kernel_rfl) rfl (by kernel_rfl) (by decide) (by simp) ?_
    rw [Tm.fits] at hfit
    have hq := equal_T 15 ks ks' hfit.1 fun x hx z _ => s_sameTerm m x z (by
      have := Tm.kid_lt (e := .mk o y n t q ks) (k := x) hx
      omega) (tmsFits_get ks hfit.2 x hx)
    rw [Tm.eq, tmsEq_agree]
    simp [Tm.a, Tm.c, tmsC_map]
    (repeat' (first | contradiction | exact .of (by kernel_rfl) | refine And.intro ?_ ?_ | intro _ | (refine agrd_cases (fun h => ?_) (fun h => ?_) <;> (have h' := h; (try simp at h'); first | done | simp [h, h'] | simp))))
    all_goals first | (refine acallT_plain hq (by simp) ?_; simp; (repeat' (first | contradiction | exact .of (by kernel_rfl) | refine And.intro ?_ ?_ | intro _ | (refine agrd_cases (fun h => ?_) (fun h => ?_) <;> (have h' := h; (try simp at h'); first | done | simp [h, h'] | simp))))) | skip
    all_goals simp_all

mutual
def Sm.fits : Sm → Prop
  | .mk _ _ _ _ is _ fq _ js w g h ks => (is.length ≤ 9223372036854775807 ∧ tmsFits (is.map It.t)) ∧ (fq.length ≤ 9223372036854775807 ∧ smsFits fq) ∧ (js.length ≤ 9223372036854775807 ∧ josFits js) ∧ (w.length ≤ 9223372036854775807 ∧ tmsFits w) ∧ (g.length ≤ 9223372036854775807 ∧ tmsFits g) ∧ (h.length ≤ 9223372036854775807 ∧ tmsFits h) ∧ (ks.length ≤ 9223372036854775807 ∧ smsFits ks)
def Jo.fits : Jo → Prop
  | .mk _ _ q _ o => (q.length ≤ 9223372036854775807 ∧ smsFits q) ∧ (o.length ≤ 9223372036854775807 ∧ tmsFits o)
def smsFits : List Sm → Prop
  | [] => True
  | e :: es => e.fits ∧ smsFits es
def josFits : List Jo → Prop
  | [] => True
  | e :: es => e.fits ∧ josFits es
end
theorem smsFits_get : ∀ l : List Sm, smsFits l → ∀ e ∈ l, e.fits
  | x :: xs, h, e, he => by
    rw [smsFits] at h
    rcases List.mem_cons.1 he with rfl | he
    · exact h.1
    · exact smsFits_get xs h.2 e he
theorem josFits_get : ∀ l : List Jo, josFits l → ∀ e ∈ l, e.fits
  | x :: xs, h, e, he => by
    rw [josFits] at h
    rcases List.mem_cons.1 he with rfl | he
    · exact h.1
    · exact josFits_get xs h.2 e he
theorem itFits_get {l : List It} (h : tmsFits (l.map It.t)) {i : It} (hi : i ∈ l) : i.t.fits := tmsFits_get _ h _ (List.mem_map_of_mem hi)

theorem s_sameTerms (a b : List Tm) (hn : a.length ≤ 9223372036854775807) (h : tmsFits a) : Cf En 45 [.d (.sl (a.map Tm.c)), .d (.sl (b.map Tm.c)), .clo 15 []] [] (.d (.bool (agree Tm.eq a b))) [] :=
  equal_T _ a b hn fun x hx y _ => s_sameTerm _ x y (Nat.lt_succ_self _) (tmsFits_get a h x hx)

theorem s_sameItem (x y : It) (hx : x.t.fits) : Cf En 42 [x.a, y.a] [] (.d (.bool (x.eq y))) [] := by
  refine cf_intro mix (fn := Tryd.f42) (by kernel_rfl) rfl (by kernel_rfl) (by decide) (by simp) ?_
  have hq := s_sameTerm _ x.t y.t (Nat.lt_succ_self _) hx
  obtain ⟨t, n⟩ := x
  obtain ⟨t', n'⟩ := y
  have c1 := Tm.clen t
  have c2 := Tm.clen t'
  have k1 := Tm.ctake' t
  have k2 := Tm.ctake' t'
  have g1 : (t.c ++ [D.str n])[6]? = some (.str n) := by rw [List.getElem?_append_right (by omega), c1]; rfl
  have g2 : (t'.c ++ [D.str n'])[6]? = some (.str n') := by rw [List.getElem?_append_right (by omega), c2]; rfl
  unfold It.eq
  simp [It.a, It.c, c1, c2]
  (repeat' (first | contradiction | exact .of (by kernel_rfl) | refine And.intro ?_ ?_ | intro _ | (refine agrd_cases (fun h => ?_) (fun h => ?_) <;> (have h' := h; (try simp at h'); first | done | simp [h, h', c1, c2, It.c] | simp [c1, c2, It.c]))))
  all_goals first | (refine acallT_plain hq (by simp [Tm.a]) ?_; simp; (repeat' (first | contradiction | exact .of (by kernel_rfl) | refine And.intro ?_ ?_ | intro _ | (refine agrd_cases (fun h => ?_) (fun h => ?_) <;> (have h' := h; (try simp at h'); first | done | simp [h, h'] | simp))))) | skip
  all_goals simp_all
theorem s_sameSource (t : List UInt8) (q : List Sm) (n : List UInt8) (t' : List UInt8) (q' : List Sm) (n' : List UInt8) (hn : q.length ≤ 9223372036854775807) (h : ∀ x ∈ q, ∀ y ∈ q', Cf En 13 [x.a, y.a] [] (.d (.bool (x.eq y))) []) :
    Cf En 44 [soA t q n, soA t' q' n'] [] (.d (.bool (soEq t q n t' q' n'))) [] := by
  refine cf_intro mix (fn := Tryd.f44) (by kernel_rfl) rfl (by kernel_rfl) (by decide) (by simp) ?_
  have hq := equal_S 13 q q' hn h
  unfold soEq
  rw [smsEq_agree]
  simp [soA, soC, smsC_map]
  (repeat' (first | contradiction | exact .of (by kernel_rfl) | refine And.intro ?_ ?_ | intro _ | (refine agrd_cases (fun h => ?_) (fun h => ?_) <;> (have h' := h; (try simp at h'); first | done | simp [h, h'] | simp))))
  all_goals first | (refine acallT_plain hq (by simp) ?_; simp; (repeat' (first | contradiction | exact .of (by kernel_rfl) | refine And.intro ?_ ?_ | intro _ | (refine agrd_cases (fun h => ?_) (fun h => ?_) <;> (have h' := h; (try simp at h'); first | done | simp [h, h'] | simp))))) | skip
  all_goals simp_all
theorem s_sameJoin (x y : Jo) (hx : x.fits) (h : ∀ a ∈ x.qs, ∀ b ∈ y.qs, Cf En 13 [a.a, b.a] [] (.d (.bool (a.eq b))) []) : Cf En 43 [x.a, y.a] [] (.d (.bool (x.eq y))) [] := by
  refine cf_intro mix (fn := Tryd.f43) (by kernel_rfl) rfl (by kernel_rfl) (by decide) (by simp) ?_
  obtain ⟨k, t, q, n, o⟩ := x
  obtain ⟨k', t', q', n', o'⟩ := y
  rw [Jo.fits] at hx
  have hq := s_sameSource t q n t' q' n' hx.1.1 h
  have ho := s_sameTerms o o' hx.2.1 hx.2.2
  rw [Jo.eq]
  simp [Jo.a, Jo.c]
  (repeat' (first | contradiction | exact .of (by kernel_rfl) | refine And.intro ?_ ?_ | intro _ | (refine agrd_cases (fun h => ?_) (fun h => ?_) <;> (have h' := h; (try simp at h'); first | done | simp [h, h'] | simp))))
  all_goals first | (refine acallT_plain hq (by simp [soA, soC]) ?_; simp; (repeat' (first | contradiction | exact .of (by kernel_rfl) | refine And.intro ?_ ?_ | intro _ | (refine agrd_cases (fun h => ?_) (fun h => ?_) <;> (have h' := h; (try simp at h'); first | done | simp [h, h'] | simp))))) | skip
  all_goals first | (refine acallT_plain ho (by simp) ?_; simp; (repeat' (first | contradiction | exact .of (by kernel_rfl) | refine And.intro ?_ ?_ | intro _ | (refine agrd_cases (fun h => ?_) (fun h => ?_) <;> (have h' := h; (try simp at h'); first | done | simp [h, h'] | simp))))) | skip
  all_goals simp_all [soEq]
end Go.Proofs.Tryd
