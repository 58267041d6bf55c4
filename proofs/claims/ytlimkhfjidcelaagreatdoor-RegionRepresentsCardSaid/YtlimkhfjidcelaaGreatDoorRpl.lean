/- RegionRepresents: the plain law. -/
import Derived.Test.YtlimkhfjidcelaaGreatDoorAts
set_option linter.all false
namespace Go.Proofs.Tryz
open Go.Ab
set_option maxRecDepth 100000
set_option maxHeartbeats 2000000

theorem constOf_val {v : V} (hv : v.valid = true) (hk : v.k = 1 ∨ v.k = 2 ∨ v.k = 3) (row : List V) : evalV (constOf v 0) row = v := by
  obtain ⟨k, n, t⟩ := v
  simp only at hk
  rcases hk with rfl | rfl | rfl
  · have := (num_valid hv rfl).2
    simp only at this
    subst this
    simp [constOf, evalV, cntd, isOp, opOf, ops]
  · have : t = [] := by simp [V.valid] at hv; exact hv.2
    subst this
    simp [constOf, evalV, cntd, isOp, opOf, ops]
  · have := (text_valid hv rfl).1
    simp only at this
    subst this
    simp [constOf, evalV, cntd, isOp, opOf, ops]
theorem ev_col (w : V) : evalV (colX 0) [w] = w := by simp [colX, evalV, cntd, isOp, opOf, ops]
theorem tr_null {a : At} (h : a.op = 21) (w : V) : a.tr w = if w.k = 0 then 1 else 0 := by
  unfold At.tr At.zero At.ex
  simp only [h]
  rw [if_neg (by decide), if_pos trivial]
  simp [evalV, evalAll, ev_col, cntd, isOp, opOf, ops, applyV, at0, ofV]
  by_cases e : w.k = 0 <;> simp [e, V.tr]
theorem tr_bool {a : At} (h : a.op = 5) (w : V) : a.tr w = w.tr := by
  unfold At.tr At.zero At.ex
  simp only [h]
  rw [if_pos trivial, ev_col]
theorem tr_cmp {a : At} (h : 14 ≤ a.op ∧ a.op ≤ 19) (hv : a.v.valid = true) (hk : a.v.k = 1 ∨ a.v.k = 2 ∨ a.v.k = 3) (w : V) :
    a.tr w = (applyV a.op [w, a.v]).tr := by
  unfold At.tr At.zero At.ex
  simp only
  rw [if_neg (by omega), if_neg (by omega)]
  have hc := constOf_val hv hk [w]
  have hcn : cntd a.op 2 = true := by
    rcases (by omega : a.op = 14 ∨ a.op = 15 ∨ a.op = 16 ∨ a.op = 17 ∨ a.op = 18 ∨ a.op = 19) with e | e | e | e | e | e <;> rw [e] <;> rfl
  rw [evalV]
  simp only [List.length_cons, List.length_nil, Nat.zero_add, Nat.reduceAdd]
  rw [if_pos hcn, if_neg (by omega), if_neg (by omega), if_neg (by omega), if_neg (by omega), if_neg (by omega)]
  simp only [evalAll, ev_col, hc]
/-- What a comparison answers hangs on the order alone. -/
theorem app_congr {o : Int} (h : 14 ≤ o ∧ o ≤ 19) {w w' v : V} (hk : w.k = w'.k) (hc : w.cmp v = w'.cmp v) : applyV o [w, v] = applyV o [w', v] := by
  have hs : w.same v = w'.same v := by rw [V.same_cmp, V.same_cmp, hc]
  have hn : v.cmp w = v.cmp w' := by rw [V.cmp_neg w v, V.cmp_neg w' v, hc]
  rcases (by omega : o = 14 ∨ o = 15 ∨ o = 16 ∨ o = 17 ∨ o = 18 ∨ o = 19) with rfl | rfl | rfl | rfl | rfl | rfl <;> simp [applyV, at0, at1, eqV, lessV, hk, hs, hc, hn]
theorem app_same {o : Int} (h : o = 14 ∨ o = 15) {w w' v : V} (hk : w.k = w'.k) (hc : w.same v = w'.same v) : applyV o [w, v] = applyV o [w', v] := by
  rcases h with rfl | rfl <;> simp [applyV, at0, at1, eqV, hk, hc]

/-! The numbers. -/
def num (n : Int) : V := ⟨1, n, []⟩
theorem num_cmp (a b : Int) : (num a).cmp (num b) = cmpI a b := by
  rw [V.cmp_def]
  simp only [num, cmpI_self]
  have : cmpS [] [] = 0 := by decide
  rw [this]
  by_cases h : cmpI a b = 0 <;> simp [h]
theorem goI_rep : ∀ (l : List Int) (n : Int), l.Pairwise (· < ·) → n ≤ maxI → (∃ h ∈ l.head?, h ≤ n) → ∃ m, num m ∈ goI (l.map num) ∧ (∀ h ∈ l.head?, h ≤ m) ∧ ∀ z ∈ l, cmpI n z = cmpI m z
  | [], n, _, _, h => by obtain ⟨_, h, _⟩ := h; simp at h
  | [v], n, _, hn, h => by
    have hv : v ≤ n := by simpa using h
    by_cases e : n = v
    · subst e
      refine ⟨n, by simp [goI, num]; split <;> simp, by simp, by simp⟩
    · have h1 : v + 1 ≤ maxI := by omega
      refine ⟨v + 1, by simp [goI, num, h1], by simp; omega, ?_⟩
      intro z hz
      simp at hz
      subst hz
      unfold cmpI
      rw [if_neg (by omega), if_pos (by omega), if_neg (by omega), if_pos (by omega)]
  | v :: u :: l, n, hp, hn, h => by
    have hv : v ≤ n := by simpa using h
    have hp' := List.pairwise_cons.1 hp
    have hvu : v < u := hp'.1 u List.mem_cons_self
    by_cases hu : u ≤ n
    · obtain ⟨m, h1, h2, h3⟩ := goI_rep (u :: l) n hp'.2 hn ⟨u, by simp, hu⟩
      have hum : u ≤ m := h2 u (by simp)
      refine ⟨m, ?_, by simp; omega, fun z hz => ?_⟩
      · rw [List.map_cons, List.map_cons] at *
        rw [goI]
        exact List.mem_append_right _ h1
      · rcases List.mem_cons.1 hz with rfl | hz
        · unfold cmpI
          rw [if_neg (by omega), if_pos (by omega), if_neg (by omega), if_pos (by omega)]
        · exact h3 z hz
    · have hrest : ∀ z ∈ u :: l, u ≤ z := fun z hz => by
        rcases List.mem_cons.1 hz with rfl | hz
        · exact Int.le_refl _
        · exact Int.le_of_lt ((List.pairwise_cons.1 hp'.2).1 z hz)
      by_cases e : n = v
      · subst e
        refine ⟨n, ?_, by simp, fun _ _ => rfl⟩
        rw [List.map_cons, List.map_cons, goI]
        apply List.mem_append_left
        split <;> simp [num]
      · have h1 : v + 1 ≤ maxI := by omega
        refine ⟨v + 1, ?_, by simp; omega, fun z hz => ?_⟩
        · rw [List.map_cons, List.map_cons, goI]
          apply List.mem_append_left
          rw [if_pos ⟨h1, by simp [num]; omega⟩]
          simp [num]
        · rcases List.mem_cons.1 hz with rfl | hz
          · unfold cmpI
            rw [if_neg (by omega), if_pos (by omega), if_neg (by omega), if_pos (by omega)]
          · have := hrest z hz
            unfold cmpI
            rw [if_pos (by omega), if_pos (by omega)]
theorem genI_rep (l : List Int) (n : Int) (hp : l.Pairwise (· < ·)) (h1 : -maxI ≤ n) (h2 : n ≤ maxI) : ∃ m, num m ∈ genI (l.map num) ∧ ∀ z ∈ l, cmpI n z = cmpI m z := by
  cases l with
  | nil => exact ⟨-maxI, by simp [genI, num], by simp⟩
  | cons v r =>
    by_cases hv : v ≤ n
    · obtain ⟨m, a, _, b⟩ := goI_rep (v :: r) n hp h2 ⟨v, by simp, hv⟩
      exact ⟨m, List.mem_append_right _ a, b⟩
    · refine ⟨-maxI, ?_, fun z hz => ?_⟩
      · unfold genI
        apply List.mem_append_left
        simp only [List.map_cons]
        rw [if_pos (by simp [num]; omega)]
        simp [num]
      · have hz' : v ≤ z := by
          rcases List.mem_cons.1 hz with rfl | hz
          · exact Int.le_refl _
          · exact Int.le_of_lt ((List.pairwise_cons.1 hp).1 z hz)
        unfold cmpI
        rw [if_pos (by omega), if_pos (by omega)]

/-! Every value is as one of the candidates. -/
theorem consts_nums {l : List At} (h : ∀ a ∈ l, a.v.k = 0 ∨ (a.v.k = 1 ∧ a.v.valid = true)) : ∃ ns : List Int, ns.Pairwise (· < ·) ∧ constsG l = ns.map num := by
  have hm : ∀ v ∈ constsG l, v = num v.n := fun v hv => by
    obtain ⟨a, ha, hav⟩ := consts_mem hv
    have hk0 : v.k ≠ 0 := by
      unfold constsG at hv
      rw [sortD_mem, List.mem_map] at hv
      obtain ⟨b, hb, rfl⟩ := hv
      have := (List.mem_filter.1 hb).2
      simpa using this
    rcases h a ha with h1 | ⟨h1, h2⟩
    · rw [hav] at h1; exact absurd h1 hk0
    · rw [hav] at h1 h2
      have := (num_valid h2 h1).2
      obtain ⟨k, n, t⟩ := v
      simp only at h1 this
      subst h1 this
      rfl
  refine ⟨(constsG l).map V.n, ?_, ?_⟩
  · have hs : (constsG l).Pairwise V.lt := sortD_sorted _
    rw [List.pairwise_map]
    refine hs.imp_of_mem fun {a b} ha hb hab => ?_
    unfold V.lt at hab
    rw [hm a ha, hm b hb, num_cmp] at hab
    have := cmpI_cases a.n b.n
    omega
  · rw [List.map_map]
    conv => lhs; rw [← List.map_id (constsG l)]
    exact List.map_congr_left fun v hv => hm v hv
theorem rep {x : Tb} {A : List At} (hA : ∀ a ∈ A, AtOk x a) {c : Int} {t : Int} (ht : typT x c = t) (hc : ∀ a ∈ A, a.col = c) (hk : t = 1 ∨ t = 2 ∨ t = 3) (nb : Bool) {w : V} (hv : w.valid = true) (hw : w.k = t ∨ (nb = true ∧ w = nulV)) :
    ∃ v ∈ genC t nb (constsG A), trsG A v = trsG A w := by
  rcases hw with hw | ⟨rfl, rfl⟩
  · have hkind : ∀ a ∈ A, (a.op = 21 ∧ a.v = nulV) ∨ (t = 1 ∧ 14 ≤ a.op ∧ a.op ≤ 19 ∧ a.v.k = 1) ∨ (t = 2 ∧ a.op = 5 ∧ a.v = nulV) ∨ (t = 2 ∧ (a.op = 14 ∨ a.op = 15) ∧ a.v.k = 2) ∨ (t = 3 ∧ (a.op = 14 ∨ a.op = 15) ∧ a.v.k = 3) := fun a ha => by
      have := (hA a ha).kind
      rwa [hc a ha, ht] at this
    rcases hk with rfl | rfl | rfl
    · obtain ⟨ns, hp, hns⟩ := consts_nums (l := A) fun a ha => by
        rcases hkind a ha with k | k | k | k | k
        · exact .inl (by rw [k.2]; rfl)
        · exact .inr ⟨k.2.2.2, (hA a ha).val⟩
        · exact absurd k.1 (by decide)
        · exact absurd k.1 (by decide)
        · exact absurd k.1 (by decide)
      obtain ⟨⟨b1, b2⟩, b3⟩ := num_valid hv hw
      have hwn : w = num w.n := by obtain ⟨k, n, tt⟩ := w; simp only at hw b3; subst hw b3; rfl
      obtain ⟨m, hm, hcm⟩ := genI_rep ns w.n hp (by simp only [maxI]; omega) (by simp only [maxI]; omega)
      refine ⟨num m, ?_, ?_⟩
      · unfold genC
        rw [if_pos rfl, hns]
        exact List.mem_append_left _ hm
      · unfold trsG
        refine List.map_congr_left fun a ha => ?_
        rcases hkind a ha with k | k | k | k | k
        · rw [tr_null k.1, tr_null k.1, hw]; rfl
        · have hval := (hA a ha).val
          rw [tr_cmp ⟨k.2.1, k.2.2.1⟩ hval (.inl k.2.2.2), tr_cmp ⟨k.2.1, k.2.2.1⟩ hval (.inl k.2.2.2)]
          have hin : a.v ∈ constsG A := by
            unfold constsG
            rw [sortD_mem, List.mem_map]
            exact ⟨a, List.mem_filter.2 ⟨ha, by rw [k.2.2.2]; decide⟩, rfl⟩
          rw [hns, List.mem_map] at hin
          obtain ⟨z, hz, hza⟩ := hin
          rw [app_congr ⟨k.2.1, k.2.2.1⟩ (w := num m) (w' := w) (by rw [hw]; rfl)]
          rw [← hza, hwn, num_cmp, num_cmp]
          exact (hcm z hz).symm
        · exact absurd k.1 (by decide)
        · exact absurd k.1 (by decide)
        · exact absurd k.1 (by decide)
    · refine ⟨w, ?_, rfl⟩
      obtain ⟨k, n, tt⟩ := w
      simp only at hw
      subst hw
      simp [V.valid] at hv
      obtain ⟨h1, rfl⟩ := hv
      unfold genC
      rw [if_neg (by decide), if_pos rfl]
      apply List.mem_append_left
      rcases h1 with rfl | rfl <;> simp
    · by_cases hin : w ∈ constsG A
      · refine ⟨w, ?_, rfl⟩
        unfold genC
        rw [if_neg (by decide), if_neg (by decide), if_pos rfl]
        exact List.mem_append_left _ (List.mem_append_left _ hin)
      · refine ⟨⟨3, 0, [48]⟩, ?_, ?_⟩
        · unfold genC
          rw [if_neg (by decide), if_neg (by decide), if_pos rfl]
          exact List.mem_append_left _ (List.mem_append_right _ List.mem_cons_self)
        · unfold trsG
          refine List.map_congr_left fun a ha => ?_
          rcases hkind a ha with k | k | k | k | k
          · rw [tr_null k.1, tr_null k.1, hw]
          · exact absurd k.1 (by decide)
          · exact absurd k.1 (by decide)
          · exact absurd k.1 (by decide)
          · have hval := (hA a ha).val
            have ho : 14 ≤ a.op ∧ a.op ≤ 19 := by omega
            rw [tr_cmp ho hval (.inr (.inr k.2.2)), tr_cmp ho hval (.inr (.inr k.2.2))]
            have hav : a.v ∈ constsG A := by
              unfold constsG
              rw [sortD_mem, List.mem_map]
              exact ⟨a, List.mem_filter.2 ⟨ha, by rw [k.2.2]; decide⟩, rfl⟩
            have n1 : w.same a.v = false := by
              rw [V.same_cmp, beq_eq_false_iff_ne]
              intro e
              exact hin (by rw [V.cmp_eq e]; exact hav)
            have n2 : V.same ⟨3, 0, [48]⟩ a.v = false := by
              rw [V.same_cmp, beq_eq_false_iff_ne]
              intro e
              exact (hA a ha).no0 (by rw [← V.cmp_eq e])
            rw [app_same k.2.1 (w := ⟨3, 0, [48]⟩) (w' := w) (by rw [hw]) (by rw [n1, n2])]
  · refine ⟨nulV, ?_, rfl⟩
    unfold genC
    rw [if_pos rfl]
    exact List.mem_append_right _ List.mem_cons_self

/-! Classes are different, and each candidate has one. -/
theorem dist_spec (f : V → List Int) : ∀ (C O : List V), O.Pairwise (fun u v => f u ≠ f v) → (distG f O C).Pairwise (fun u v => f u ≠ f v) ∧ (∀ v ∈ O, v ∈ distG f O C) ∧ ∀ v ∈ C, ∃ u ∈ distG f O C, f u = f v
  | [], O, h => ⟨h, fun v hv => hv, fun v hv => by cases hv⟩
  | v :: C, O, h => by
    rw [distG]
    by_cases ha : (O.any fun u => f u == f v) = true
    · rw [if_pos ha]
      obtain ⟨a, b, c⟩ := dist_spec f C O h
      refine ⟨a, b, fun w hw => ?_⟩
      rcases List.mem_cons.1 hw with rfl | hw
      · obtain ⟨u, hu, e⟩ := List.any_eq_true.1 ha
        exact ⟨u, b u hu, by simpa using e⟩
      · exact c w hw
    · rw [if_neg ha]
      have hO : (O ++ [v]).Pairwise (fun u v => f u ≠ f v) := by
        rw [List.pairwise_append]
        refine ⟨h, by simp, fun u hu w hw => ?_⟩
        simp at hw
        subst hw
        intro e
        exact ha (List.any_eq_true.2 ⟨u, hu, by simpa using e⟩)
      obtain ⟨a, b, c⟩ := dist_spec f C (O ++ [v]) hO
      refine ⟨a, fun u hu => b u (List.mem_append_left _ hu), fun w hw => ?_⟩
      rcases List.mem_cons.1 hw with rfl | hw
      · exact ⟨w, b w (by simp), rfl⟩
      · exact c w hw
theorem count_one (f : V → List Int) (g : List Int) : ∀ R : List V, R.Pairwise (fun u v => f u ≠ f v) → (∃ u ∈ R, f u = g) → R.countP (fun u => g == f u) = 1
  | [], _, h => by obtain ⟨_, h, _⟩ := h; cases h
  | u :: R, hp, h => by
    have hp' := List.pairwise_cons.1 hp
    rw [List.countP_cons]
    by_cases e : f u = g
    · have : R.countP (fun u => g == f u) = 0 := by
        rw [List.countP_eq_zero]
        intro w hw
        have := hp'.1 w hw
        rw [e] at this
        simpa using this
      rw [this, if_pos (by simpa using e.symm)]
    · obtain ⟨w, hw, hwe⟩ := h
      have hw' : w ∈ R := by
        rcases List.mem_cons.1 hw with rfl | hw
        · exact absurd hwe e
        · exact hw
      rw [count_one f g R hp'.2 ⟨w, hw', hwe⟩, if_neg (by simpa using fun h => e h.symm)]
theorem classes_one {x : Tb} {A : List At} (hA : ∀ a ∈ A, AtOk x a) {c t : Int} (ht : typT x c = t) (hk : t = 1 ∨ t = 2 ∨ t = 3) (nb : Bool) {w : V} (hv : w.valid = true) (hw : w.k = t ∨ (nb = true ∧ w = nulV)) :
    (classesG c t nb A).countP (fun u => trsG (aboutG c A) w == trsG (aboutG c A) u) = 1 := by
  unfold classesG
  obtain ⟨a, _, d⟩ := dist_spec (trsG (aboutG c A)) (genC t nb (constsG (aboutG c A))) [] .nil
  refine count_one (trsG (aboutG c A)) _ _ a ?_
  obtain ⟨v, hv1, hv2⟩ := rep (A := aboutG c A) (fun a ha => hA a (about_mem ha).1) ht (fun a ha => (about_mem ha).2) hk nb hv hw
  obtain ⟨u, hu1, hu2⟩ := d v hv1
  exact ⟨u, hu1, by rw [hu2, hv2]⟩
end Go.Proofs.Tryz
