/- The reference's classes of a column: the walk. -/
import Derived.Test.YtlimkhfjidcelaaGreatDoorCla
set_option linter.all false
namespace Go.Proofs.Tryz
open Go.Ab
set_option maxRecDepth 100000
set_option maxHeartbeats 2000000

theorem consts_mem {l : List At} {v : V} (h : v ∈ constsG l) : ∃ a ∈ l, a.v = v := by
  unfold constsG at h
  rw [sortD_mem, List.mem_map] at h
  obtain ⟨a, ha, rfl⟩ := h
  exact ⟨a, (List.mem_filter.1 ha).1, rfl⟩
theorem about_mem {c : Int} {l : List At} {a : At} (h : a ∈ aboutG c l) : a ∈ l ∧ a.col = c := by
  unfold aboutG at h
  obtain ⟨h1, h2⟩ := List.mem_filter.1 h
  exact ⟨h1, by simpa using h2⟩
theorem trsG_eq (A : List At) (u v : V) : (trsG A u == trsG A v) = A.all fun a => a.tr u == a.tr v := by
  unfold trsG
  induction A with
  | nil => rfl
  | cons a A ih => rw [List.map_cons, List.map_cons, List.all_cons, ← ih]; rfl
theorem all_take {α : Type} {l : List α} {p : α → Bool} {i : Nat} (h : i < l.length) : (l.take (i + 1)).all p = ((l.take i).all p && p l[i]) := by
  rw [take_snoc h, List.all_append]
  simp only [List.all_cons, List.all_nil, Bool.and_true]
theorem genI_len (l : List V) : (genI l).length ≤ 2 * l.length + 1 := by
  have h : ∀ l : List V, (goI l).length ≤ 2 * l.length := by
    intro l
    induction l with
    | nil => simp [goI]
    | cons v r ih =>
      have e := goI_drop (l := v :: r) (i := 0) (by simp)
      simp only [List.drop_zero, List.drop_succ_cons] at e
      rw [e, List.length_append, List.length_cons]
      have h2 : ∀ (p : Prop) [Decidable p] (a b : V), (if p then [a, b] else [a]).length ≤ 2 := fun p _ a b => by split <;> simp
      refine Nat.le_trans (Nat.add_le_add_right (h2 _ _ _) _) ?_
      omega
  have := h l
  unfold genI
  rw [List.length_append]
  have h4 : ∀ x y : List V, x.length ≤ 1 → (x ++ y).length ≤ 1 + y.length := fun x y hx => by rw [List.length_append]; omega
  rw [← List.length_append]
  refine Nat.le_trans (h4 _ _ ?_) (by omega)
  split
  · simp
  · split <;> simp
theorem genC_len (k : Int) (nb : Bool) (l : List V) : (genC k nb l).length ≤ 2 * l.length + 4 := by
  have := genI_len l
  unfold genC
  rw [List.length_append]
  have h2 : (if nb = true then [nulV] else ([] : List V)).length ≤ 1 := by split <;> simp
  split
  · omega
  split
  · simp at *; omega
  split
  · simp at *; omega
  · simp at *; omega
theorem distG_drop {f : V → List Int} {l : List V} {i : Nat} {O : List V} (h : i < l.length) : distG f O (l.drop i) = distG f (if (O.any fun u => f u == f l[i]) = true then O else O ++ [l[i]]) (l.drop (i + 1)) := by
  rw [List.drop_eq_getElem_cons h, distG]
def clF (A : List At) (ALL : List V) (x : Nat × List V) : St :=
  { s := mkS [(7, .d (.sl (A.map At.c))), (9, .d (.sl (ALL.map V.c))), (10, .ref 900 0 x.2.length 3), (11, .d (.int .i64 x.1))], b := mkB [(900, 900, .arr 54 3 (x.2.map V.c) false)] }
theorem r13_classes (x : Col) (c : Int) (l : List At) (hl : l.length ≤ 100) (hk : x.t = 1 ∨ x.t = 2 ∨ x.t = 3) (ht : ∀ a ∈ l, a.v.t.length ≤ 200) (hn : ∀ a ∈ l, -maxI ≤ a.v.n ∧ a.v.n ≤ maxI) (h48 : ∀ a ∈ l, a.v.t ≠ [48]) :
    Cf En 15 [x.a, .d (.int .i64 c), .d (.sl (l.map At.c))] [] (.d (.sl ((classesG c x.t x.b l).map V.c))) [] := by
  refine cf_intro mix (fn := Tryz.f15) (by kernel_rfl) rfl (by kernel_rfl) (by decide) (by simp) ?_
  have hab := r13_about l (by omega) c
  have hAm : ∀ a ∈ aboutG c l, a ∈ l := fun a h => (about_mem h).1
  have hAl : (aboutG c l).length ≤ 100 := Nat.le_trans (List.length_filter_le _ _) hl
  have hcl := constsG_len (aboutG c l)
  have hgl := genC_len x.t x.b (constsG (aboutG c l))
  have hin := r13_ints (constsG (aboutG c l)) (by omega) fun v hv => by
    obtain ⟨a, ha, rfl⟩ := consts_mem hv
    exact hn a (hAm a ha)
  have htx := r13_texts (constsG (aboutG c l)) (by omega) fun v hv => by
    obtain ⟨a, ha, rfl⟩ := consts_mem hv
    exact h48 a (hAm a ha)
  unfold classesG
  obtain ⟨ALL, hALL⟩ : ∃ ALL, ALL = genC x.t x.b (constsG (aboutG c l)) := ⟨_, rfl⟩
  rw [← hALL] at hgl ⊢
  generalize constsG (aboutG c l) = C at *
  obtain ⟨A, hA⟩ : ∃ A, A = aboutG c l := ⟨_, rfl⟩
  rw [← hA] at hab hAm hAl hcl ⊢
  have hAt : ∀ a ∈ A, a.v.t.length ≤ 200 := fun a h => ht a (hAm a h)
  clear hA hAm hn h48 ht
  refine' (fun (key : LoopKey En 97 0 (clF A ALL (0, [])) _ _) => ?main) ?keyg
  case main =>
    simp [Col.a, Col.c]
    (repeat' (first | contradiction | exact .of (by kernel_rfl) | refine And.intro ?_ ?_ | intro _ | (refine agrd_cases (fun h => ?_) (fun h => ?_) <;> (have h' := h; (try simp at h'); first | done | simp [h, h'] | simp))))
    refine acallT_plain hab (by simp) ?_
    rcases hk with hk | hk | hk
    · simp [hk]
      (repeat' (first | contradiction | exact .of (by kernel_rfl) | refine And.intro ?_ ?_ | intro _ | (refine agrd_cases (fun h => ?_) (fun h => ?_) <;> (have h' := h; (try simp at h'); first | done | simp [h, h', hk] | simp [hk]))))
      refine acallT_new [] hin (by simp) (by simp) (by simp) (by simp) (by simp) (by simp) (by simp) ?_
      have e0 := genI_len C
      cases hb : x.b
      · simp [hb]
        (repeat' (first | contradiction | exact .of (by kernel_rfl) | refine And.intro ?_ ?_ | intro _ | (refine agrd_cases (fun h => ?_) (fun h => ?_) <;> (have h' := h; (try simp at h'); first | done | simp [h, h', hb] | simp [hb]))))
        refine key _ ?_
        exact sub_mkn 10 900 54 3 (by simp) (by simp) (by decide) (by decide) _ [(900, 900, _)] ⟨by simp, by simp, by simp [renOf, Blk.live], by simp⟩ (by simp [renOf, hALL, genC, hk, hb]; try exact List.take_of_length_le (by simp))
      · simp [hb, szs (genI C).length (by omega) 32 (by decide), szs ((genI C).length + 1) (by omega) 32 (by decide)]
        (repeat' (first | contradiction | exact .of (by kernel_rfl) | refine And.intro ?_ ?_ | intro _ | (refine agrd_cases (fun h => ?_) (fun h => ?_) <;> (have h' := h; (try simp at h'); first | done | simp [h, h', hb] | simp [hb]))))
        refine key _ ?_
        exact sub_mkn 10 900 54 3 (by simp) (by simp) (by decide) (by decide) _ [(900, 900, _)] ⟨by simp, by simp, by simp [renOf, Blk.live], by simp⟩ (by simp [renOf, hALL, genC, hk, hb, V.c, nulV]; try exact List.take_of_length_le (by simp))
    · simp [hk]
      (repeat' (first | contradiction | exact .of (by kernel_rfl) | refine And.intro ?_ ?_ | intro _ | (refine agrd_cases (fun h => ?_) (fun h => ?_) <;> (have h' := h; (try simp at h'); first | done | simp [h, h', hk] | simp [hk]))))
      refine acallT_plain (r_bool 0) (by simp [V.a]) ?_
      simp [V.a, boolV0]
      refine acallT_plain (r_bool 1) (by simp [V.a]) ?_
      simp [V.a, boolV1]
      cases hb : x.b
      · simp [hb]
        (repeat' (first | contradiction | exact .of (by kernel_rfl) | refine And.intro ?_ ?_ | intro _ | (refine agrd_cases (fun h => ?_) (fun h => ?_) <;> (have h' := h; (try simp at h'); first | done | simp [h, h', hb] | simp [hb]))))
        refine key _ ?_
        exact sub_mkn 10 900 54 3 (by simp) (by simp) (by decide) (by decide) _ [(900, 900, _)] ⟨by simp, by simp, by simp [renOf, Blk.live], by simp⟩ (by simp [renOf, hALL, genC, hk, hb, V.c])
      · simp [hb]
        (repeat' (first | contradiction | exact .of (by kernel_rfl) | refine And.intro ?_ ?_ | intro _ | (refine agrd_cases (fun h => ?_) (fun h => ?_) <;> (have h' := h; (try simp at h'); first | done | simp [h, h', hb] | simp [hb]))))
        refine key _ ?_
        exact sub_mkn 10 900 54 3 (by simp) (by simp) (by decide) (by decide) _ [(900, 900, _)] ⟨by simp, by simp, by simp [renOf, Blk.live], by simp⟩ (by simp [renOf, hALL, genC, hk, hb, V.c, nulV]; try exact List.take_of_length_le (by simp))
    · simp [hk]
      (repeat' (first | contradiction | exact .of (by kernel_rfl) | refine And.intro ?_ ?_ | intro _ | (refine agrd_cases (fun h => ?_) (fun h => ?_) <;> (have h' := h; (try simp at h'); first | done | simp [h, h', hk] | simp [hk]))))
      refine acallT_new [] htx (by simp) (by simp) (by simp) (by simp) (by simp) (by simp) (by simp) ?_
      cases hb : x.b
      · simp [hb]
        (repeat' (first | contradiction | exact .of (by kernel_rfl) | refine And.intro ?_ ?_ | intro _ | (refine agrd_cases (fun h => ?_) (fun h => ?_) <;> (have h' := h; (try simp at h'); first | done | simp [h, h', hb] | simp [hb]))))
        refine key _ ?_
        exact sub_mkn 10 900 54 3 (by simp) (by simp) (by decide) (by decide) _ [(900, 900, _)] ⟨by simp, by simp, by simp [renOf, Blk.live], by simp⟩ (by simp [renOf, hALL, genC, hk, hb]; try exact List.take_of_length_le (by simp))
      · simp [hb, szs (C.length + 1) (by omega) 32 (by decide), szs (C.length + 1 + 1) (by omega) 32 (by decide), szs C.length (by omega) 32 (by decide)]
        (repeat' (first | contradiction | exact .of (by kernel_rfl) | refine And.intro ?_ ?_ | intro _ | (refine agrd_cases (fun h => ?_) (fun h => ?_) <;> (have h' := h; (try simp at h'); first | done | simp [h, h', hb] | simp [hb]))))
        refine key _ ?_
        exact sub_mkn 10 900 54 3 (by simp) (by simp) (by decide) (by decide) _ [(900, 900, _)] ⟨by simp, by simp, by simp [renOf, Blk.live], by simp⟩ (by simp [renOf, hALL, genC, hk, hb, V.c, nulV]; try exact List.take_of_length_le (by simp))
  intro st hst
  refine aloopT mix (by decide) (clF A ALL) (fun y => y.1 ≤ ALL.length ∧ distG (trsG A) y.2 (ALL.drop y.1) = distG (trsG A) [] ALL ∧ y.2.length ≤ y.1) (fun y => ALL.length - y.1) (0, []) ⟨by simp, by simp, by simp⟩ hst ?_
  rintro ⟨i, O⟩ ⟨hi, hD, hOl⟩
  simp only at hi hD hOl
  by_cases hlt : i < ALL.length
  · rw [distG_drop hlt] at hD
    obtain ⟨v, hv⟩ : ∃ v, v = ALL[i] := ⟨_, rfl⟩
    have hgi : ∀ h, ALL[i]'h = v := fun _ => hv.symm
    rw [← hv] at hD
    have hw := wrap_in (n := (i : Int) + 1) (by omega) (by omega)
    simp [clF, hlt]
    (repeat' (first | contradiction | exact .of (by kernel_rfl) | refine And.intro ?_ ?_ | intro _ | (refine agrd_cases (fun h => ?_) (fun h => ?_) <;> (have h' := h; (try simp at h'); first | done | simp [h, h'] | simp))))
    refine aloopT mix (by decide) (fun k : Nat => { s := mkS [(7, .d (.sl (A.map At.c))), (9, .d (.sl (ALL.map V.c))), (10, .ref 900 0 O.length 3), (11, .d (.int .i64 i)), (12, .d (.bool (!(O.take k).any fun u => trsG A u == trsG A v))), (13, .d (.int .i64 k))], b := mkB [(900, 900, .arr 54 3 (O.map V.c) false)] }) (fun k => k ≤ O.length) (fun k => O.length - k) 0 (by simp) (sub_mk _ [(900, 900, _)] ⟨by simp, by simp, by simp [renOf, Blk.live], by simp⟩ (by simp [renOf])) ?_
    intro k hk
    by_cases hkt : k < O.length
    · obtain ⟨u, hu⟩ : ∃ u, u = O[k] := ⟨_, rfl⟩
      have hgu : ∀ h, O[k]'h = u := fun _ => hu.symm
      have hat := any_take (p := fun u => trsG A u == trsG A v) hkt
      rw [← hu] at hat
      have hwk := wrap_in (n := (k : Int) + 1) (by omega) (by omega)
      generalize hfr : (O.take k).any (fun u => trsG A u == trsG A v) = fr at *
      simp [hkt]
      (repeat' (first | contradiction | exact .of (by kernel_rfl) | refine And.intro ?_ ?_ | intro _ | (refine agrd_cases (fun h => ?_) (fun h => ?_) <;> (have h' := h; (try simp at h'); first | done | simp [h, h'] | simp))))
      refine aloopT mix (by decide) (fun j : Nat => { s := mkS [(7, .d (.sl (A.map At.c))), (9, .d (.sl (ALL.map V.c))), (10, .ref 900 0 O.length 3), (11, .d (.int .i64 i)), (12, .d (.bool !fr)), (13, .d (.int .i64 k)), (14, .d (.bool ((A.take j).all fun a => a.tr u == a.tr v))), (15, .d (.int .i64 j))], b := mkB [(900, 900, .arr 54 3 (O.map V.c) false)] }) (fun j => j ≤ A.length) (fun j => A.length - j) 0 (by simp) (sub_mk _ [(900, 900, _)] ⟨by simp, by simp, by simp [renOf, Blk.live], by simp⟩ (by simp [renOf, hfr])) ?_
      intro j hj
      by_cases hjt : j < A.length
      · obtain ⟨a, ha⟩ : ∃ a, a = A[j] := ⟨_, rfl⟩
        have hga : ∀ h, A[j]'h = a := fun _ => ha.symm
        have hal := all_take (p := fun a => a.tr u == a.tr v) hjt
        rw [← ha] at hal
        have htl := hAt a (by rw [ha]; exact List.getElem_mem hjt)
        have hwj := wrap_in (n := (j : Int) + 1) (by omega) (by omega)
        cases hsm : (A.take j).all fun a => a.tr u == a.tr v
        · rw [hsm] at hal
          simp [hjt]
          (repeat' (first | contradiction | exact .of (by kernel_rfl) | refine And.intro ?_ ?_ | intro _ | (refine agrd_cases (fun h => ?_) (fun h => ?_) <;> (have h' := h; (try simp at h'); first | done | simp [h, h'] | simp))))
          refine ⟨j + 1, by omega, ?_, by simp; omega⟩
          refine sub_mk _ [(900, 900, _)] ⟨by simp, by simp, by simp [renOf, Blk.live], by simp⟩ (by simp [renOf, hwj, hal])
        · rw [hsm] at hal
          simp [hjt, hga, hkt, hgu, hlt, hgi, At.c, V.c]
          (repeat' (first | contradiction | exact .of (by kernel_rfl) | refine And.intro ?_ ?_ | intro _ | (refine agrd_cases (fun h => ?_) (fun h => ?_) <;> (have h' := h; (try simp at h'); first | done | simp [h, h'] | simp))))
          refine acallT_plain (r13_truth a htl u) (by simp [At.a, At.c, V.a]) ?_
          simp [hjt, hga, hkt, hgu, hlt, hgi, At.c, V.c]
          refine acallT_plain (r13_truth a htl v) (by simp [At.a, At.c, V.a]) ?_
          simp
          (repeat' (first | contradiction | exact .of (by kernel_rfl) | refine And.intro ?_ ?_ | intro _ | (refine agrd_cases (fun h => ?_) (fun h => ?_) <;> (have h' := h; (try simp at h'); first | done | simp [h, h'] | simp))))
          refine ⟨j + 1, by omega, ?_, by simp; omega⟩
          refine sub_mk _ [(900, 900, _)] ⟨by simp, by simp, by simp [renOf, Blk.live], by simp⟩ (by simp [renOf, hwj, hal])
      have hje : j = A.length := by omega
      subst hje
      rw [List.take_length, ← trsG_eq]
      simp
      cases fr
      · simp
        (repeat' (first | contradiction | exact .of (by kernel_rfl) | refine And.intro ?_ ?_ | intro _ | (refine agrd_cases (fun h => ?_) (fun h => ?_) <;> (have h' := h; (try simp at h'); first | done | simp [h, h'] | simp))))
        refine ⟨k + 1, by omega, ?_, by simp; omega⟩
        refine sub_mk _ [(900, 900, _)] ⟨by simp, by simp, by simp [renOf, Blk.live], by simp⟩ (by simp [renOf, hwk, hat])
      · simp
        (repeat' (first | contradiction | exact .of (by kernel_rfl) | refine And.intro ?_ ?_ | intro _ | (refine agrd_cases (fun h => ?_) (fun h => ?_) <;> (have h' := h; (try simp at h'); first | done | simp [h, h'] | simp))))
        refine ⟨k + 1, by omega, ?_, by simp; omega⟩
        refine sub_mk _ [(900, 900, _)] ⟨by simp, by simp, by simp [renOf, Blk.live], by simp⟩ (by simp [renOf, hwk, hat])
    have hke : k = O.length := by omega
    subst hke
    rw [List.take_length]
    cases hfr : O.any fun u => trsG A u == trsG A v
    · rw [hfr] at hD
      simp [hlt, hgi, V.c, szs O.length (by omega) 32 (by decide), szs (O.length + 1) (by omega) 32 (by decide)]
      (repeat' (first | contradiction | exact .of (by kernel_rfl) | refine And.intro ?_ ?_ | intro _ | (refine agrd_cases (fun h => ?_) (fun h => ?_) <;> (have h' := h; (try simp at h'); first | done | simp [h, h'] | simp))))
      refine ⟨(i + 1, O ++ [v]), ⟨by simp only; omega, by simpa using hD, by simp; omega⟩, ?_, by simp; omega⟩
      refine sub_mk _ [(900, 95, _)] ⟨by simp, by simp, by simp [renOf, Blk.live, V.c], by simp⟩ (by simp [renOf, hw])
    · rw [hfr] at hD
      simp
      (repeat' (first | contradiction | exact .of (by kernel_rfl) | refine And.intro ?_ ?_ | intro _ | (refine agrd_cases (fun h => ?_) (fun h => ?_) <;> (have h' := h; (try simp at h'); first | done | simp [h, h'] | simp))))
      refine ⟨(i + 1, O), ⟨by simp only; omega, by simpa using hD, by simp only; omega⟩, ?_, by simp; omega⟩
      refine sub_mk _ [(900, 900, _)] ⟨by simp, by simp, by simp [renOf, Blk.live], by simp⟩ (by simp [renOf, hw])
  have hie : i = ALL.length := by omega
  subst hie
  rw [List.drop_length, distG] at hD
  rw [← hD]
  simp [clF]
  (repeat' (first | contradiction | exact .of (by kernel_rfl) | refine And.intro ?_ ?_ | intro _ | (refine agrd_cases (fun h => ?_) (fun h => ?_) <;> (have h' := h; (try simp at h'); first | done | simp [h, h'] | simp))))
end Go.Proofs.Tryz
