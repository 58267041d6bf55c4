/- The reference's Shift. -/
import Derived.Test.YtnbbnkmaoaogeaaCls0
set_option linter.all false
namespace Go.Proofs.Try
open Go.Ab
set_option maxRecDepth 100000
set_option maxHeartbeats 4000000

def rsF (o c n g' : Int) (t : List UInt8) (ks : List Ex) (d g : Int) : Nat → St
  | 0 => { s := mkS [(1, .d (.int .i64 d)), (2, .ptr 2 0 0), (4, .ptr 4 0 0), (5, .ptr 5 0 0), (6, .d (.int .i64 0))], b := mkB [(2, 2, .var [.d (.int .i64 o), .d (.int .i64 c), .d (.int .i64 n), .d (.str t), .d (.int .i64 g), .d (.sl (ks.map Ex.c))]), (4, 4, .var [.d (.int .i64 0), .d (.int .i64 0), .d (.int .i64 0), .d (.str []), .d (.int .i64 0), .nils]), (5, 5, .var [.d (.int .i64 o), .d (.int .i64 c), .d (.int .i64 n), .d (.str t), .d (.int .i64 g'), .nils])] }
  | i + 1 => { s := mkS [(1, .d (.int .i64 d)), (2, .ptr 2 0 0), (4, .ptr 4 0 0), (5, .ptr 5 0 0), (6, .d (.int .i64 (i + 1 : Nat)))], b := mkB [(2, 2, .var [.d (.int .i64 o), .d (.int .i64 c), .d (.int .i64 n), .d (.str t), .d (.int .i64 g), .d (.sl (ks.map Ex.c))]), (4, 4, .var [.d (.int .i64 0), .d (.int .i64 0), .d (.int .i64 0), .d (.str []), .d (.int .i64 0), .nils]), (5, 5, .var [.d (.int .i64 o), .d (.int .i64 c), .d (.int .i64 n), .d (.str t), .d (.int .i64 g'), .ref 900 0 (i + 1) 6]), (900, 34, .arr 24 6 ((ks.take (i + 1)).map fun e => (e.shift d).c) false)] }
theorem few_kids {o c n : Int} {t : List UInt8} {g : Int} {ks : List Ex} {q : Nat} (hq : (Ex.mk o c n t g ks).few q = true) : ks.length ≤ 12 ∧ t.length ≤ 200 ∧ ∀ e ∈ ks, e.few (q + 1) = true := by
  rw [Ex.few] at hq
  by_cases h1 : 60 < q
  · simp [h1] at hq
  by_cases h2 : 12 < ks.length
  · simp [h1, h2] at hq
  by_cases h3 : 200 < t.length
  · simp [h1, h2, h3] at hq
  · simp [h1, h2, h3] at hq
    rw [fewAll_all, List.all_eq_true] at hq
    exact ⟨by omega, by omega, hq⟩
theorem r_shift_cf : ∀ (m : Nat) (e : Ex), SizeOf.sizeOf e < m → ∀ q : Nat, e.few q = true → ∀ d : Int, Cf En 24 [e.a, .d (.int .i64 d)] [] (e.shift d).a []
  | 0, _, h, _, _, _ => absurd h (by omega)
  | m + 1, .mk o c n t g ks, hm, q, hq, d => by
    refine cf_intro mix (fn := Try.f24) (by kernel_rfl) rfl (by kernel_rfl) (by decide) (by simp) ?_
    obtain ⟨hk12, _, hfew⟩ := few_kids hq
    have hs : (Ex.mk o c n t g ks).shift d = .mk o c n t (if o = 5 then IntKind.i64.wrap (g + d) else g) (ks.map fun e => e.shift d) := by rw [Ex.shift, shiftAll_map]
    rw [hs]
    generalize hg : (if o = 5 then IntKind.i64.wrap (g + d) else g) = g'
    have hgo : (o = 5 ∧ IntKind.i64.wrap (g + d) = g') ∨ (o ≠ 5 ∧ g = g') := by
      by_cases h5 : o = 5
      · exact .inl ⟨h5, by simpa [h5] using hg⟩
      · exact .inr ⟨h5, by simpa [h5] using hg⟩
    rcases hgo with ⟨h5, hg'⟩ | ⟨h5, hg'⟩
    all_goals
      simp [Ex.a, Ex.c, kidsC_map, h5]
      (repeat' (first | contradiction | exact .of (by kernel_rfl) | refine And.intro ?_ ?_ | intro _ | (refine agrd_cases (fun h => ?_) (fun h => ?_) <;> (have h' := h; (try simp at h'); first | done | simp [h, h', h5] | simp [h5]))))
      all_goals
        try rw [hg']
        refine aloopT mix (by decide) (rsF o c n g' t ks d g) (fun i : Nat => i ≤ ks.length) (fun i => ks.length - i) 0 (by simp) (sub_mk [(1, _), (2, _), (4, _), (5, _), (6, _)] [(2, 2, _), (4, 4, _), (5, 5, _)] ⟨by simp, by simp, by simp [renOf, Blk.live, h5, hg'], by simp⟩ (by simp [renOf])) ?_
        intro i hi
        by_cases hlt : i < ks.length
        · have hgi : ks[i]? = some ks[i] := List.getElem?_eq_getElem hlt
          have c1 := Ex.clen ks[i]
          have k1 := Ex.ctake ks[i]
          have c2 := Ex.clen (ks[i].shift d)
          have hkid : SizeOf.sizeOf ks[i] < m := by
            have := Ex.kid_lt (e := .mk o c n t g ks) (k := ks[i]) (List.getElem_mem hlt)
            omega
          have hrec := r_shift_cf m ks[i] hkid (q + 1) (hfew _ (List.getElem_mem hlt)) d
          have htk : List.take (i + 1) (List.map (fun e => (Ex.shift e d).c) ks) = List.take i (List.map (fun e => (Ex.shift e d).c) ks) ++ [(ks[i].shift d).c] := by
            rw [List.take_add_one, List.getElem?_map, hgi]; rfl
          cases i with
          | zero =>
            have hlt' : 0 < ks.length := hlt
            have hlt2 : (0 : Int) < ks.length := by omega
            simp [rsF, hlt', hlt2, hgi, c1, k1]
            (repeat' (first | contradiction | exact .of (by kernel_rfl) | refine And.intro ?_ ?_ | intro _ | (refine agrd_cases (fun h => ?_) (fun h => ?_) <;> (have h' := h; (try simp at h'); first | done | simp [h, h'] | simp))))
            refine acallT_plain hrec (by simp [Ex.a]) ?_
            simp [Ex.a, c2, Ex.ctake']
            (repeat' (first | contradiction | exact .of (by kernel_rfl) | refine And.intro ?_ ?_ | intro _ | (refine agrd_cases (fun h => ?_) (fun h => ?_) <;> (have h' := h; (try simp at h'); first | done | simp [h, h'] | simp))))
            refine ⟨1, hlt', ?_, ?_⟩
            · refine sub_mk [(1, _), (2, _), (4, _), (5, _), (6, _)] [(2, 2, _), (4, 4, _), (5, 5, _), (900, 34, _)] ⟨by simp, by simp, ?_, by simp⟩ ?_
              · simp only [Nat.zero_add, List.take_zero, List.nil_append] at htk
                simp [renOf, Blk.live, htk]
              · simp [renOf]
                exact wrap_in (by omega) (by omega)
            · simp; omega
          | succ i =>
            have hlt2 : ((i + 1 : Nat) : Int) < ks.length := by omega
            have hlt3 : (i : Int) + 1 < ks.length := by omega
            have hi1 : i + 1 ≤ ks.length := hi
            have hp : (0 : Int) ≤ (i : Int) + 1 := by omega
            have hmin : min (i + 1) ks.length = i + 1 := by omega
            simp [rsF, hlt, hlt2, hlt3, hp, hgi, c1, k1]
            (repeat' (first | contradiction | exact .of (by kernel_rfl) | refine And.intro ?_ ?_ | intro _ | (refine agrd_cases (fun h => ?_) (fun h => ?_) <;> (have h' := h; (try simp at h'); first | done | simp [h, h'] | simp))))
            refine acallT_plain hrec (by simp [Ex.a]) ?_
            have s1 : (i + 1 + 1) * 72 ≤ 140737488355328 := by omega
            have s2 : i ≤ 9223372036854775805 := by omega
            simp [Ex.a, c2, Ex.ctake', hmin, s1, s2]
            (repeat' (first | contradiction | exact .of (by kernel_rfl) | refine And.intro ?_ ?_ | intro _ | (refine agrd_cases (fun h => ?_) (fun h => ?_) <;> (have h' := h; (try simp at h'); first | done | simp [h, h'] | simp))))
            refine ⟨i + 2, by omega, ?_, ?_⟩
            · refine sub_mk [(1, _), (2, _), (4, _), (5, _), (6, _)] [(2, 2, _), (4, 4, _), (5, 5, _), (900, 34, _)] ⟨by simp, by simp, ?_, by simp⟩ ?_
              · simp [renOf, Blk.live, htk]
              · simp [renOf]
                rw [wrap_in (by omega) (by omega)]
            · simp; omega
        · have hie : i = ks.length := by omega
          subst hie
          cases hk : ks.length with
          | zero =>
            have : ks = [] := List.eq_nil_of_length_eq_zero hk
            subst this
            simp [rsF]
            (repeat' (first | contradiction | exact .of (by kernel_rfl) | refine And.intro ?_ ?_ | intro _ | (refine agrd_cases (fun h => ?_) (fun h => ?_) <;> (have h' := h; (try simp at h'); first | done | simp [h, h'] | simp))))
            all_goals rfl
          | succ i =>
            have e1 : ((i + 1 : Nat) : Int) = (i : Int) + 1 := by omega
            simp [rsF, hk]
            (repeat' (first | contradiction | exact .of (by kernel_rfl) | refine And.intro ?_ ?_ | intro _ | (refine agrd_cases (fun h => ?_) (fun h => ?_) <;> (have h' := h; (try simp at h'); first | done | simp [h, h'] | simp))))
            all_goals rw [List.take_of_length_le (by simp [hk]), List.take_of_length_le (by simp [hk]), kidsC_map, List.map_map]; rfl
end Go.Proofs.Try
