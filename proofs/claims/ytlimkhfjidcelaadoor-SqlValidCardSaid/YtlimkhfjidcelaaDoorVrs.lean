/- Valid terms and statements: the reference's conditions. -/
import Derived.Test.YtlimkhfjidcelaaDoorVfo
import Derived.Test.YtlimkhfjidcelaaDoorRqt
import Derived.Test.YtlimkhfjidcelaaDoorRdp
set_option linter.all false
namespace Go.Proofs.Tryd
open Go.Ab
set_option maxRecDepth 100000
set_option maxHeartbeats 2000000

theorem all_drop {α : Type} {p : α → Bool} {l : List α} {i : Nat} {x : α} (h : l[i]? = some x) : (l.drop i).all p = (p x && (l.drop (i + 1)).all p) := by
  obtain ⟨hi, rfl⟩ := List.getElem?_eq_some_iff.1 h
  rw [List.drop_eq_getElem_cons hi, List.all_cons]
theorem all_end {α : Type} {p : α → Bool} {l : List α} {i : Nat} (h : l.length ≤ i) : (l.drop i).all p = true := by rw [List.drop_eq_nil_of_le h]; rfl
theorem r_rights (l : List Tm) (hl : l.length ≤ 9223372036854775807) (h : ∀ x ∈ l, Cf Es 40 [x.a] [] (.d (.bool x.right)) []) :
    Cf Es 82 [.d (.sl (l.map Tm.c))] [] (.d (.bool (l.all Tm.right))) [] := by
  refine cf_intro mixs (fn := Tryd.f82) (by kernel_rfl) rfl (by kernel_rfl) (by decide) (by simp) ?_
  generalize hR : l.all Tm.right = R
  simp
  (repeat refine ⟨.of (by kernel_rfl), ?_⟩)
  refine aloopT mixs (by decide) (fun i : Nat => { s := mkS [(0, .d (.sl (l.map Tm.c))), (3, .d (.int .i64 i))], b := mkB [] }) (fun i : Nat => i ≤ l.length ∧ (l.drop i).all Tm.right = R) (fun i => l.length - i) 0 (by simp [hR]) (sub_mk _ [] .nil (by simp)) ?_
  rintro i ⟨hi, ho⟩
  by_cases hlt : i < l.length
  · have hlt' : (i : Int) < l.length := by omega
    obtain ⟨x, hg⟩ : ∃ x, l[i]? = some x := ⟨_, List.getElem?_eq_getElem hlt⟩
    have hgi : ∀ h, l[i]'h = x := fun h => (List.getElem?_eq_some_iff.1 hg).2
    have hx := h x (List.mem_of_getElem? hg)
    rw [all_drop hg] at ho
    have c1 := x.clen
    have k1 := x.ctake
    generalize x.right = X at *
    simp [hlt, hlt', hg, hgi, c1, k1]
    (repeat refine ⟨.of (by kernel_rfl), ?_⟩)
    refine acallT_plain hx (by simp [Tm.a]) ?_
    simp
    refine ⟨.of (by kernel_rfl), fun h => ⟨.of (by kernel_rfl), ?_⟩, fun h => ⟨.of (by kernel_rfl), i + 1, ⟨hlt, ?_⟩, sub_mk _ [] .nil ?_, ?_⟩⟩
    · rw [← ho, h]; rfl
    · rw [← ho, h]; rfl
    · simp; exact wrap_in (by omega) (by omega)
    · simp; omega
  · have hlt' : ¬ (i : Int) < l.length := by omega
    rw [all_end (by omega)] at ho
    simp [hlt, hlt']
    (repeat refine ⟨.of (by kernel_rfl), ?_⟩)
    exact ho.symm
theorem r_right : ∀ (m : Nat) (x : Tm), SizeOf.sizeOf x < m → x.fits → Cf Es 40 [x.a] [] (.d (.bool x.right)) []
  | 0, _, h, _ => absurd h (by omega)
  | m + 1, .mk o y n t q ks, hm, hfit => by
    refine cf_intro mixs (fn := Tryd.f40) (by kernel_rfl) rfl (by kernel_rfl) (by decide) (by simp) ?_
    rw [Tm.fits] at hfit
    have h1 := r_plain o y n t q ks ks.length
    have h2 := r_rights ks hfit.1 fun x hx => r_right m x (by
      have := Tm.kid_lt (e := .mk o y n t q ks) (k := x) hx
      omega) (tmsFits_get ks hfit.2 x hx)
    rw [Tm.right, tmsRight_all]
    generalize hK : ks.all Tm.right = K at *
    generalize hO : okK o y n t q ks.length = O at *
    simp [Tm.a, Tm.c, tmsC_map]
    (repeat refine ⟨.of (by kernel_rfl), ?_⟩)
    refine acallT_plain h1 (by simp [Tm.a, Tm.c, tmsC_map]) ?_
    simp [tmsC_map]
    (repeat' (first | contradiction | exact .of (by kernel_rfl) | refine And.intro ?_ ?_ | intro _ | (refine agrd_cases (fun h => ?_) (fun h => ?_) <;> (have h' := h; (try simp at h'); first | done | simp [h, h', tmsC_map] | simp [tmsC_map]))))
    all_goals first | (refine acallT_plain h2 (by simp) ?_; simp; (repeat' (first | contradiction | exact .of (by kernel_rfl) | refine And.intro ?_ ?_ | intro _ | (refine agrd_cases (fun h => ?_) (fun h => ?_) <;> (have h' := h; (try simp at h'); first | done | simp [h, h'] | simp))))) | skip
    all_goals simp_all
theorem r_rightsF (l : List Tm) (hl : l.length ≤ 9223372036854775807) (hf : tmsFits l) : Cf Es 82 [.d (.sl (l.map Tm.c))] [] (.d (.bool (l.all Tm.right))) [] :=
  r_rights l hl fun x hx => r_right _ x (Nat.lt_succ_self _) (tmsFits_get _ hf x hx)
theorem r_validTerm (x : Tm) (hf : x.fits) : Cf Es 12 [x.a] [] (.d (.bool (decide (x.dep ≤ 24) && x.right))) [] := by
  refine cf_intro mixs (fn := Tryd.f12) (by kernel_rfl) rfl (by kernel_rfl) (by decide) (by simp) ?_
  have h1 := r_right _ x (Nat.lt_succ_self _) hf
  have h2 := ups (r_termDepth _ x (Nat.lt_succ_self _) hf)
  have c1 := x.clen
  have k1 := x.ctake
  simp [Tm.a, c1, k1]
  (repeat refine ⟨.of (by kernel_rfl), ?_⟩)
  refine acallT_plain h1 (by simp [Tm.a]) ?_
  simp [c1, k1]
  (repeat' (first | contradiction | exact .of (by kernel_rfl) | refine And.intro ?_ ?_ | intro _ | (refine agrd_cases (fun h => ?_) (fun h => ?_) <;> (have h' := h; (try simp at h'); first | done | simp [h, h', c1, k1] | simp [c1, k1]))))
  all_goals first | (refine acallT_plain h2 (by simp [Tm.a]) ?_; simp; (repeat' (first | contradiction | exact .of (by kernel_rfl) | refine And.intro ?_ ?_ | intro _ | (refine agrd_cases (fun h => ?_) (fun h => ?_) <;> (have h' := h; (try simp at h'); first | done | simp [h, h'] | simp))))) | skip
  all_goals simp_all
theorem r_sourceOk (t : List UInt8) (q : List Sm) (n : List UInt8) (h : ∀ x ∈ q, Cf Es 36 [x.a] [] (.d (.bool x.right)) []) :
    Cf Es 81 [soA t q n] [] (.d (.bool (soRight t q n))) [] := by
  refine cf_intro mixs (fn := Tryd.f81) (by kernel_rfl) rfl (by kernel_rfl) (by decide) (by simp) ?_
  have h1 := r_name t
  have h3 := r_name n
  unfold soRight nameOr
  match q, h with
  | [], _ =>
    simp [soA, soC, smsC]
    (repeat refine ⟨.of (by kernel_rfl), ?_⟩)
    refine acallT_plain h1 (by simp) ?_
    simp
    (repeat' (first | contradiction | exact .of (by kernel_rfl) | refine And.intro ?_ ?_ | intro _ | (refine agrd_cases (fun h => ?_) (fun h => ?_) <;> (have h' := h; (try simp at h'); first | done | simp [h, h'] | simp))))
    all_goals first | (refine acallT_plain h3 (by simp) ?_; simp; (repeat' (first | contradiction | exact .of (by kernel_rfl) | refine And.intro ?_ ?_ | intro _ | (refine agrd_cases (fun h => ?_) (fun h => ?_) <;> (have h' := h; (try simp at h'); first | done | simp [h, h'] | simp))))) | skip
    all_goals simp_all
  | [x], h =>
    have h4 := h x List.mem_cons_self
    have c1 := x.clen
    have k1 := x.ctake
    rw [smsRight, smsRight]
    generalize hR : x.right = R at *
    simp [soA, soC, smsC, c1, k1]
    (repeat' (first | contradiction | exact .of (by kernel_rfl) | refine And.intro ?_ ?_ | intro _ | (refine agrd_cases (fun h => ?_) (fun h => ?_) <;> (have h' := h; (try simp at h'); first | done | simp [h, h', c1, k1] | simp [c1, k1]))))
    all_goals first | (refine acallT_plain h3 (by simp) ?_; simp [c1, k1]; (repeat' (first | contradiction | exact .of (by kernel_rfl) | refine And.intro ?_ ?_ | intro _ | (refine agrd_cases (fun h => ?_) (fun h => ?_) <;> (have h' := h; (try simp at h'); first | done | simp [h, h', c1, k1] | simp [c1, k1]))))) | skip
    all_goals first | (refine acallT_plain h4 (by simp [Sm.a]) ?_; simp; (repeat' (first | contradiction | exact .of (by kernel_rfl) | refine And.intro ?_ ?_ | intro _ | (refine agrd_cases (fun h => ?_) (fun h => ?_) <;> (have h' := h; (try simp at h'); first | done | simp [h, h'] | simp))))) | skip
    all_goals simp_all
  | x :: y :: l, _ =>
    have hl : ¬ (l.length : Int) + 1 + 1 = 0 := by omega
    have hl1 : ((l.length : Int) + 1 + 1 == 1) = false := by simp; omega
    have hl0 : ((l.length : Int) + 1 + 1 == 0) = false := by simp; omega
    simp [soA, soC, smsC, smsC_map, hl, hl1, hl0]
    (repeat' (first | contradiction | exact .of (by kernel_rfl) | refine And.intro ?_ ?_ | intro _ | (refine agrd_cases (fun h => ?_) (fun h => ?_) <;> (have h' := h; (try simp at h'); first | done | simp [h, h', hl, hl1, hl0] | simp [hl, hl1, hl0]))))
end Go.Proofs.Tryd
