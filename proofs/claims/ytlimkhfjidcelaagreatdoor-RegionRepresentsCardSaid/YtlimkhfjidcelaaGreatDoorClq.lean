/- The program's classes of a column. -/
import Derived.Test.YtlimkhfjidcelaaGreatDoorClp
set_option linter.all false
namespace Go.Proofs.Tryz
open Go.Ab
set_option maxRecDepth 100000
set_option maxHeartbeats 2000000

theorem p_equal (a b : List Int) (hl : a.length ≤ 1000) : Cf En 37 [.d (.sl (ints a)), .d (.sl (ints b))] [] (.d (.bool (a == b))) [] := by
  refine cf_intro mix (fn := Tryz.f37) (by kernel_rfl) rfl (by kernel_rfl) (by decide) (by simp) ?_
  by_cases he : a.length = b.length
  · have he' : (a.length : Int) = b.length := by omega
    simp [he]
    (repeat' (first | contradiction | exact .of (by kernel_rfl) | refine And.intro ?_ ?_ | intro _ | (refine agrd_cases (fun h => ?_) (fun h => ?_) <;> (have h' := h; (try simp at h'); first | done | simp [h, h', he] | simp [he]))))
    refine aloopT mix (by decide) (fun i : Nat => { s := mkS [(0, .d (.sl (ints a))), (1, .d (.sl (ints b))), (12, .d (.int .i64 b.length)), (13, .d (.int .i64 i))], b := mkB [] }) (fun i => i ≤ a.length ∧ a.take i = b.take i) (fun i => a.length - i) 0 (by simp) (sub_mk _ [] .nil (by simp)) ?_
    rintro i ⟨hi, ht⟩
    by_cases hlt : i < a.length
    · have hlb : i < b.length := by omega
      have hw := wrap_in (n := (i : Int) + 1) (by omega) (by omega)
      by_cases hx : a[i] = b[i]
      · simp [hlt, hlb, hx]
        (repeat' (first | contradiction | exact .of (by kernel_rfl) | refine And.intro ?_ ?_ | intro _ | (refine agrd_cases (fun h => ?_) (fun h => ?_) <;> (have h' := h; (try simp at h'); first | done | simp [h, h', hx] | simp [hx]))))
        refine ⟨i + 1, ⟨by omega, by rw [take_snoc hlt, take_snoc hlb, ht, hx]⟩, ?_, by simp; omega⟩
        exact sub_mk _ [] .nil (by simp [hw])
      · have hne : (a == b) = false := by
          rw [beq_eq_false_iff_ne]
          rintro rfl
          exact hx rfl
        simp [hlt, hlb, hx, hne]
        (repeat' (first | contradiction | exact .of (by kernel_rfl) | refine And.intro ?_ ?_ | intro _ | (refine agrd_cases (fun h => ?_) (fun h => ?_) <;> (have h' := h; (try simp at h'); first | done | simp [h, h', hx] | simp [hx]))))
    have hie : i = a.length := by omega
    subst hie
    have hab : a = b := by rw [List.take_length, List.take_of_length_le (by omega)] at ht; exact ht
    have hnl : ¬ a.length < b.length := by omega
    simp [hnl, hab]
    (repeat' (first | contradiction | exact .of (by kernel_rfl) | refine And.intro ?_ ?_ | intro _ | (refine agrd_cases (fun h => ?_) (fun h => ?_) <;> (have h' := h; (try simp at h'); first | done | simp [h, h'] | simp))))
  · have he' : ¬ (a.length : Int) = b.length := by omega
    have hne : (a == b) = false := by
      rw [beq_eq_false_iff_ne]
      rintro rfl
      exact he rfl
    simp [he, he', hne]
    (repeat' (first | contradiction | exact .of (by kernel_rfl) | refine And.intro ?_ ?_ | intro _ | (refine agrd_cases (fun h => ?_) (fun h => ?_) <;> (have h' := h; (try simp at h'); first | done | simp [h, h', he] | simp [he]))))
theorem p_cl1 (t u : List Int) (hl : u.length ≤ 1000) : Cf En 36 [.d (.sl (ints u)), .ptr 1000000 0 0] [.var [.d (.sl (ints t))]] (.d (.bool (u == t))) [.var [.d (.sl (ints t))]] := by
  refine cf_intro mix (fn := Tryz.f36) (by kernel_rfl) rfl (by kernel_rfl) (by decide) (by simp) ?_
  simp
  (repeat' (first | contradiction | exact .of (by kernel_rfl) | refine And.intro ?_ ?_ | intro _ | (refine agrd_cases (fun h => ?_) (fun h => ?_) <;> (have h' := h; (try simp at h'); first | done | simp [h, h'] | simp))))
  refine acallT_plain (p_equal u t hl) (by simp) ?_
  simp
  (repeat' (first | contradiction | exact .of (by kernel_rfl) | refine And.intro ?_ ?_ | intro _ | (refine agrd_cases (fun h => ?_) (fun h => ?_) <;> (have h' := h; (try simp at h'); first | done | simp [h, h'] | simp))))
def fidx {α : Type} (p : α → Bool) : List α → Nat → Int
  | [], _ => -1
  | x :: l, i => if p x = true then i else fidx p l (i + 1)
theorem fidx_drop {α : Type} {p : α → Bool} {l : List α} {i k : Nat} (h : i < l.length) : fidx p (l.drop i) k = if p l[i] = true then (k : Int) else fidx p (l.drop (i + 1)) (k + 1) := by
  rw [List.drop_eq_getElem_cons h, fidx]
theorem fidx_ge {α : Type} {p : α → Bool} : ∀ {l : List α} {k : Nat}, decide (0 ≤ fidx p l k) = l.any p
  | [], _ => by simp [fidx]
  | x :: l, k => by
    rw [fidx, List.any_cons]
    by_cases h : p x = true
    · rw [if_pos h, h]; simp
    · rw [if_neg h, fidx_ge]; simp [h]
theorem p_idx (t : List Int) (S : List (List Int)) (hl : S.length ≤ 1000) (hS : ∀ u ∈ S, u.length ≤ 1000) : Cf En 88 [.d (.sl (S.map intsD)), .clo 36 [.ptr 1000000 0 0]] [.var [.d (.sl (ints t))]] (.d (.int .i64 (fidx (fun u => u == t) S 0))) [.var [.d (.sl (ints t))]] := by
  refine cf_intro mix (fn := Tryz.f88) (by kernel_rfl) rfl (by kernel_rfl) (by decide) (by simp) ?_
  simp
  (repeat' (first | contradiction | exact .of (by kernel_rfl) | refine And.intro ?_ ?_ | intro _ | (refine agrd_cases (fun h => ?_) (fun h => ?_) <;> (have h' := h; (try simp at h'); first | done | simp [h, h'] | simp))))
  refine aloopT mix (by decide) (fun i : Nat => { s := mkS [(0, .d (.sl (S.map intsD))), (1, .clo 36 [.ptr 1000000 0 0]), (7, .d (.int .i64 S.length)), (8, .d (.int .i64 i))], b := mkB [(1000000, 1000000, .var [.d (.sl (ints t))])] }) (fun i => i ≤ S.length ∧ fidx (fun u => u == t) (S.drop i) i = fidx (fun u => u == t) S 0) (fun i => S.length - i) 0 (by simp) (sub_mk _ [(1000000, 1000000, _)] ⟨by simp, by simp, by simp [renOf, Blk.live], base1⟩ (by simp [renOf])) ?_
  rintro i ⟨hi, hf⟩
  by_cases hlt : i < S.length
  · rw [fidx_drop hlt] at hf
    obtain ⟨u, hu⟩ : ∃ u, u = S[i] := ⟨_, rfl⟩
    have hgi : ∀ h, S[i]'h = u := fun _ => hu.symm
    rw [← hu] at hf
    have hw := wrap_in (n := (i : Int) + 1) (by omega) (by omega)
    have hul := hS u (by rw [hu]; exact List.getElem_mem hlt)
    simp [hlt, hgi, intsD]
    (repeat' (first | contradiction | exact .of (by kernel_rfl) | refine And.intro ?_ ?_ | intro _ | (refine agrd_cases (fun h => ?_) (fun h => ?_) <;> (have h' := h; (try simp at h'); first | done | simp [h, h'] | simp))))
    refine acallT_hand [1000000] (p_cl1 t u hul) (by simp) (by simp) (by simp) (by simp) (by simp) ?_
    cases he : u == t
    · rw [he] at hf
      simp [he]
      (repeat' (first | contradiction | exact .of (by kernel_rfl) | refine And.intro ?_ ?_ | intro _ | (refine agrd_cases (fun h => ?_) (fun h => ?_) <;> (have h' := h; (try simp at h'); first | done | simp [h, h', he] | simp [he]))))
      refine ⟨i + 1, ⟨by omega, by simpa using hf⟩, ?_, by simp; omega⟩
      exact sub_mk _ [(1000000, 1000000, _)] ⟨by simp, by simp, by simp [renOf, Blk.live], base1⟩ (by simp [renOf, hw])
    · rw [he] at hf
      simp only [if_true] at hf
      simp [he, ← hf]
      (repeat' (first | contradiction | exact .of (by kernel_rfl) | refine And.intro ?_ ?_ | intro _ | (refine agrd_cases (fun h => ?_) (fun h => ?_) <;> (have h' := h; (try simp at h'); first | done | simp [h, h', he] | simp [he]))))
  have hie : i = S.length := by omega
  subst hie
  rw [List.drop_length, fidx] at hf
  simp [← hf]
  (repeat' (first | contradiction | exact .of (by kernel_rfl) | refine And.intro ?_ ?_ | intro _ | (refine agrd_cases (fun h => ?_) (fun h => ?_) <;> (have h' := h; (try simp at h'); first | done | simp [h, h'] | simp))))
theorem p_has (t : List Int) (S : List (List Int)) (hl : S.length ≤ 1000) (hS : ∀ u ∈ S, u.length ≤ 1000) : Cf En 35 [.d (.sl (S.map intsD)), .clo 36 [.ptr 1000000 0 0]] [.var [.d (.sl (ints t))]] (.d (.bool (S.any fun u => u == t))) [.var [.d (.sl (ints t))]] := by
  refine cf_intro mix (fn := Tryz.f35) (by kernel_rfl) rfl (by kernel_rfl) (by decide) (by simp) ?_
  have hg := fidx_ge (p := fun u => u == t) (l := S) (k := 0)
  simp
  (repeat' (first | contradiction | exact .of (by kernel_rfl) | refine And.intro ?_ ?_ | intro _ | (refine agrd_cases (fun h => ?_) (fun h => ?_) <;> (have h' := h; (try simp at h'); first | done | simp [h, h'] | simp))))
  refine acallT_hand [1000000] (p_idx t S hl hS) (by simp) (by simp) (by simp) (by simp) (by simp) ?_
  simp [hg]
  (repeat' (first | contradiction | exact .of (by kernel_rfl) | refine And.intro ?_ ?_ | intro _ | (refine agrd_cases (fun h => ?_) (fun h => ?_) <;> (have h' := h; (try simp at h'); first | done | simp [h, h'] | simp))))

/-! Truths. -/
def trG (row : List V) (l : List At) : List Int := l.map fun a => (evalV a.ex row).tr
theorem p13_truths (l : List At) (hl : l.length ≤ 1000) (ht : ∀ a ∈ l, a.v.t.length ≤ 200) (row : List V) (hrow : row.length ≤ 1000) : Cf Eo 34 [.d (.sl (l.map At.c)), .d (.sl (row.map V.c))] [] (.d (.sl (ints (trG row l)))) [] := by
  refine cf_intro mixo (fn := Tryz.f34) (by kernel_rfl) rfl (by kernel_rfl) (by decide) (by simp) ?_
  simp
  (repeat' (first | contradiction | exact .of (by kernel_rfl) | refine And.intro ?_ ?_ | intro _ | (refine agrd_cases (fun h => ?_) (fun h => ?_) <;> (have h' := h; (try simp at h'); first | done | simp [h, h'] | simp))))
  refine aloopT mixo (by decide) (fun i : Nat => { s := mkS [(1, .d (.sl (row.map V.c))), (5, .ref 900 0 i 1), (8, .d (.sl (l.map At.c))), (9, .d (.int .i64 l.length)), (10, .d (.int .i64 i))], b := mkB [(900, 900, .arr 3 1 (ints (trG row (l.take i))) false)] }) (fun i => i ≤ l.length) (fun i => l.length - i) 0 (by simp)
    (sub_mkn 5 900 3 1 (by simp) (by simp) (by decide) (by decide) _ [(900, 900, _)] ⟨by simp, by simp, by simp [renOf, Blk.live, trG, ints], by simp⟩ (by simp [renOf])) ?_
  intro i hi
  by_cases hlt : i < l.length
  · obtain ⟨a, ha⟩ : ∃ a, a = l[i] := ⟨_, rfl⟩
    have hgi : ∀ h, l[i]'h = a := fun _ => ha.symm
    have hta := ht a (by rw [ha]; exact List.getElem_mem hlt)
    have he := eval_cf row hrow (SizeOf.sizeOf a.ex + 1) a.ex (by omega) 0 (few_ex hta 0 (by omega))
    have hw := wrap_in (n := (i : Int) + 1) (by omega) (by omega)
    have hTl : (trG row (l.take i)).length = i := by simp [trG]; omega
    have hT : trG row (l.take (i + 1)) = trG row (l.take i) ++ [(evalV a.ex row).tr] := by unfold trG; rw [take_snoc hlt, List.map_append, ← ha]; rfl
    simp [hlt, hgi, At.c]
    (repeat' (first | contradiction | exact .of (by kernel_rfl) | refine And.intro ?_ ?_ | intro _ | (refine agrd_cases (fun h => ?_) (fun h => ?_) <;> (have h' := h; (try simp at h'); first | done | simp [h, h'] | simp))))
    refine acallT_plain (up (p13_expr a)) (by simp [At.a, At.c]) ?_
    simp [Ex.a, Ex.ctake']
    (repeat' (first | contradiction | exact .of (by kernel_rfl) | refine And.intro ?_ ?_ | intro _ | (refine agrd_cases (fun h => ?_) (fun h => ?_) <;> (have h' := h; (try simp at h'); first | done | simp [h, h'] | simp))))
    refine acallT_plain he (by simp [Ex.a, Ex.ctake']) ?_
    simp [V.a]
    refine acallT_plain (up (v_truth (evalV a.ex row))) (by simp [V.a]) ?_
    simp [hTl, szs i (by omega) 8 (by decide), szs (i + 1) (by omega) 8 (by decide)]
    (repeat' (first | contradiction | exact .of (by kernel_rfl) | refine And.intro ?_ ?_ | intro _ | (refine agrd_cases (fun h => ?_) (fun h => ?_) <;> (have h' := h; (try simp at h'); first | done | simp [h, h'] | simp))))
    refine ⟨i + 1, by omega, ?_, by simp; omega⟩
    exact sub_mk _ [(900, 21, _)] ⟨by simp, by simp, by simp [renOf, Blk.live, hT, ints], by simp⟩ (by simp [renOf, hw])
  have hie : i = l.length := by omega
  subst hie
  rw [List.take_length]
  have hTl : (trG row l).length = l.length := by simp [trG]
  simp [hTl]
  (repeat' (first | contradiction | exact .of (by kernel_rfl) | refine And.intro ?_ ?_ | intro _ | (refine agrd_cases (fun h => ?_) (fun h => ?_) <;> (have h' := h; (try simp at h'); first | done | simp [h, h'] | simp))))
  all_goals exact List.take_of_length_le (by simp [hTl])
theorem trG_zero (v : V) (A : List At) : trG [v] (A.map At.zero) = trsG A v := by
  unfold trG trsG
  rw [List.map_map]
  rfl
theorem constsG_zero (A : List At) : constsG (A.map At.zero) = constsG A := by
  unfold constsG
  congr 1
  rw [List.filter_map, List.map_map]
  rfl
theorem distG_any (f : V → List Int) (O : List V) (v : V) : ((O.map f).any fun u => u == f v) = O.any fun u => f u == f v := by
  rw [List.any_map]; rfl
def cqF (Z : List At) (C : List V) (f : V → List Int) (y : Nat × List V × Bool) : St :=
  { s := mkS [(7, .d (.sl (Z.map At.c))), (10, .ref 900 0 y.2.1.length 3), (11, .ref 901 0 y.2.1.length 1), (33, .d (.sl (C.map V.c))), (34, .d (.int .i64 C.length)), (35, .d (.int .i64 y.1))], b := mkB [(900, 900, .arr 54 3 (y.2.1.map V.c) false), (901, 901, .arr 22 1 ((y.2.1.map f).map intsD) y.2.2)] }
theorem p13_classes (x : Col) (c : Int) (l : List At) (hl : l.length ≤ 12) (hk : x.t = 1 ∨ x.t = 2 ∨ x.t = 3) (hkd : ∀ a ∈ l, a.col = c → a.v.k = 0 ∨ a.v.k = x.t) (ht : ∀ a ∈ l, a.v.t.length ≤ 200) (hn : ∀ a ∈ l, -maxI ≤ a.v.n ∧ a.v.n ≤ maxI) (h48 : ∀ a ∈ l, a.v.t ≠ [48]) :
    Cf Eo 14 [x.a, .d (.int .i64 c), .d (.sl (l.map At.c))] [] (.d (.sl ((classesG c x.t x.b l).map V.c))) [] := by
  refine cf_intro mixo (fn := Tryz.f14) (by kernel_rfl) rfl (by kernel_rfl) (by decide) (by simp) ?_
  simp [Col.a, Col.c]
  (repeat' (first | contradiction | exact .of (by kernel_rfl) | refine And.intro ?_ ?_ | intro _ | (refine agrd_cases (fun h => ?_) (fun h => ?_) <;> (have h' := h; (try simp at h'); first | done | simp [h, h'] | simp))))
  refine aloopT mixo (by decide) (fun i : Nat => { s := mkS [(1, .d (.int .i64 c)), (3, .ptr 3 0 0), (7, .ref 900 0 (aboutG c (l.take i)).length 5), (15, .d (.sl (l.map At.c))), (16, .d (.int .i64 l.length)), (17, .d (.int .i64 i))], b := mkB [(3, 3, .var (x.c.map AV.d)), (900, 900, .arr 58 5 (((aboutG c (l.take i)).map At.zero).map At.c) false)] }) (fun i => i ≤ l.length) (fun i => l.length - i) 0 (by simp)
    (sub_mkn 7 900 58 5 (by simp) (by simp) (by decide) (by decide) _ [(3, 3, _), (900, 900, _)] ⟨by simp, by simp, by simp [renOf, Blk.live, Col.c, aboutG], by simp⟩ (by simp [renOf, aboutG])) ?_
  intro i hi
  by_cases hlt : i < l.length
  · have hta := aboutG_take (c := c) hlt
    obtain ⟨a, ha⟩ : ∃ a, a = l[i] := ⟨_, rfl⟩
    have hgi : ∀ h, l[i]'h = a := fun _ => ha.symm
    rw [← ha] at hta
    have hAl : (aboutG c (l.take i)).length ≤ 12 := Nat.le_trans (List.length_filter_le _ _) (by simp; omega)
    have hw := wrap_in (n := (i : Int) + 1) (by omega) (by omega)
    generalize aboutG c (l.take i) = A at *
    by_cases hc : a.col = c
    · rw [if_pos hc] at hta
      simp [hlt, hgi, At.c, hc, szs A.length (by omega) 48 (by decide), szs (A.length + 1) (by omega) 48 (by decide)]
      (repeat' (first | contradiction | exact .of (by kernel_rfl) | refine And.intro ?_ ?_ | intro _ | (refine agrd_cases (fun h => ?_) (fun h => ?_) <;> (have h' := h; (try simp at h'); first | done | simp [h, h', hc] | simp [hc]))))
      refine ⟨i + 1, by omega, ?_, by simp; omega⟩
      exact sub_mk _ [(3, 3, _), (900, 29, _)] ⟨by simp, by simp, by simp [renOf, Blk.live, Col.c, hta, At.c, At.zero], by simp⟩ (by simp [renOf, hw, hta])
    · rw [if_neg hc] at hta
      simp [hlt, hgi, At.c, hc]
      (repeat' (first | contradiction | exact .of (by kernel_rfl) | refine And.intro ?_ ?_ | intro _ | (refine agrd_cases (fun h => ?_) (fun h => ?_) <;> (have h' := h; (try simp at h'); first | done | simp [h, h', hc] | simp [hc]))))
      refine ⟨i + 1, by omega, ?_, by simp; omega⟩
      exact sub_mk _ [(3, 3, _), (900, 900, _)] ⟨by simp, by simp, by simp [renOf, Blk.live, Col.c, hta], by simp⟩ (by simp [renOf, hw, hta])
  have hie : i = l.length := by omega
  subst hie
  rw [List.take_length]
  unfold classesG
  have hAm : ∀ a ∈ aboutG c l, a ∈ l ∧ a.col = c := fun a h => about_mem h
  have hAl : (aboutG c l).length ≤ 12 := Nat.le_trans (List.length_filter_le _ _) hl
  have hcz := constsG_zero (aboutG c l)
  have hZ : ∀ z ∈ (aboutG c l).map At.zero, ∃ a ∈ l, a.col = c ∧ z.v = a.v := fun z hz => by
    obtain ⟨a, ha, rfl⟩ := List.mem_map.1 hz
    exact ⟨a, (hAm a ha).1, (hAm a ha).2, rfl⟩
  have hca := up (p13_cands x ((aboutG c l).map At.zero) (by simpa using hAl) hk (fun z hz => by obtain ⟨a, h1, h2, h3⟩ := hZ z hz; rw [h3]; exact hkd a h1 h2) (fun z hz => by obtain ⟨a, h1, h2, h3⟩ := hZ z hz; rw [h3]; exact hn a h1) (fun z hz => by obtain ⟨a, h1, h2, h3⟩ := hZ z hz; rw [h3]; exact h48 a h1))
  have hZt : ∀ z ∈ (aboutG c l).map At.zero, z.v.t.length ≤ 200 := fun z hz => by obtain ⟨a, h1, h2, h3⟩ := hZ z hz; rw [h3]; exact ht a h1
  rw [hcz] at hca
  have hgl := genC_len x.t x.b (constsG (aboutG c l))
  have hcl := constsG_len (aboutG c l)
  have htz := fun v => trG_zero v (aboutG c l)
  have hzl : ((aboutG c l).map At.zero).length = (aboutG c l).length := by simp
  generalize genC x.t x.b (constsG (aboutG c l)) = C at *
  clear hcz hZ hAm
  obtain ⟨f, hf⟩ : ∃ f, f = trsG (aboutG c l) := ⟨_, rfl⟩
  have hfl : ∀ v, (f v).length ≤ 12 := fun v => by rw [hf]; simpa [trsG] using hAl
  rw [← hf]
  have htf : ∀ v, trG [v] ((aboutG c l).map At.zero) = f v := fun v => by rw [hf]; exact htz v
  clear htz hf
  generalize hZe : (aboutG c l).map At.zero = Z at *
  have hZl : (aboutG c l).length = Z.length := hzl.symm
  simp [Col.c, hZl]
  (repeat' (first | contradiction | exact .of (by kernel_rfl) | refine And.intro ?_ ?_ | intro _ | (refine agrd_cases (fun h => ?_) (fun h => ?_) <;> (have h' := h; (try simp at h'); first | done | simp [h, h'] | simp))))
  refine acallT_plain hca (by simp [Col.a, Col.c]) ?_
  simp
  (repeat' (first | contradiction | exact .of (by kernel_rfl) | refine And.intro ?_ ?_ | intro _ | (refine agrd_cases (fun h => ?_) (fun h => ?_) <;> (have h' := h; (try simp at h'); first | done | simp [h, h'] | simp))))
  refine aloopT mixo (by decide) (cqF Z C f) (fun y => y.1 ≤ C.length ∧ distG f y.2.1 (C.drop y.1) = distG f [] C ∧ y.2.1.length ≤ y.1) (fun y => C.length - y.1) (0, [], false) ⟨by simp, by simp, by simp⟩
    (sub_mkn2 10 902 54 3 11 903 22 1 (by simp) (by simp) (by decide) (by decide) (by simp) (by simp) (by decide) (by decide) (by decide) (by decide) _ [(900, 902, _), (901, 903, _)] ⟨by simp, by simp, by simp [renOf, Blk.live], by simp⟩ (by simp [renOf])) ?_
  rintro ⟨i, O, fz⟩ ⟨hi, hD, hOl⟩
  simp only at hi hD hOl
  by_cases hlt : i < C.length
  · rw [distG_drop hlt] at hD
    obtain ⟨v, hv⟩ : ∃ v, v = C[i] := ⟨_, rfl⟩
    have hgi : ∀ h, C[i]'h = v := fun _ => hv.symm
    rw [← hv] at hD
    have hw := wrap_in (n := (i : Int) + 1) (by omega) (by omega)
    have htr := p13_truths Z (by omega) hZt [v] (by simp)
    rw [htf] at htr
    have hda := distG_any f O v
    have hha := up (p_has (f v) (O.map f) (by simp; omega) (fun u hu => by obtain ⟨z, _, rfl⟩ := List.mem_map.1 hu; exact Nat.le_trans (hfl z) (by omega)))
    rw [hda] at hha
    simp [cqF, hlt, hgi, V.c]
    (repeat' (first | contradiction | exact .of (by kernel_rfl) | refine And.intro ?_ ?_ | intro _ | (refine agrd_cases (fun h => ?_) (fun h => ?_) <;> (have h' := h; (try simp at h'); first | done | simp [h, h'] | simp))))
    refine acallT_plain htr (by simp [V.c]) ?_
    simp
    (repeat' (first | contradiction | exact .of (by kernel_rfl) | refine And.intro ?_ ?_ | intro _ | (refine agrd_cases (fun h => ?_) (fun h => ?_) <;> (have h' := h; (try simp at h'); first | done | simp [h, h'] | simp))))
    refine acallT_hand [14] hha (by simp) (by simp) (by simp) (by simp) (by simp) ?_
    cases hfr : O.any fun u => f u == f v
    · rw [hfr] at hD
      simp [szs O.length (by omega) 32 (by decide), szs (O.length + 1) (by omega) 32 (by decide), szs (O.length + 1) (by omega) 24 (by decide)]
      (repeat' (first | contradiction | exact .of (by kernel_rfl) | refine And.intro ?_ ?_ | intro _ | (refine agrd_cases (fun h => ?_) (fun h => ?_) <;> (have h' := h; (try simp at h'); first | done | simp [h, h'] | simp))))
      refine ⟨(i + 1, O ++ [v], true), ⟨by simp only; omega, by simpa using hD, by simp; omega⟩, ?_, by simp; omega⟩
      exact sub_mk _ [(900, 50, _), (901, 54, _)] ⟨by simp, by simp, by simp [renOf, Blk.live, V.c, intsD], by simp⟩ (by simp [renOf, hw])
    · rw [hfr] at hD
      simp
      (repeat' (first | contradiction | exact .of (by kernel_rfl) | refine And.intro ?_ ?_ | intro _ | (refine agrd_cases (fun h => ?_) (fun h => ?_) <;> (have h' := h; (try simp at h'); first | done | simp [h, h'] | simp))))
      refine ⟨(i + 1, O, true), ⟨by simp only; omega, by simpa using hD, by simp only; omega⟩, ?_, by simp; omega⟩
      exact sub_mk _ [(900, 900, _), (901, 901, _)] ⟨by simp, by simp, by simp [renOf, Blk.live], by simp⟩ (by simp [renOf, hw])
  have hie : i = C.length := by omega
  subst hie
  rw [List.drop_length, distG] at hD
  rw [← hD]
  simp [cqF]
  (repeat' (first | contradiction | exact .of (by kernel_rfl) | refine And.intro ?_ ?_ | intro _ | (refine agrd_cases (fun h => ?_) (fun h => ?_) <;> (have h' := h; (try simp at h'); first | done | simp [h, h'] | simp))))
end Go.Proofs.Tryz
