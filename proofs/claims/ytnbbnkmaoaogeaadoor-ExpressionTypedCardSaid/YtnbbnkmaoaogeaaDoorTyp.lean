/- Types of expressions. -/
import Derived.Test.YtnbbnkmaoaogeaaDoorWty
set_option linter.all false
namespace Go.Proofs.Tryd
open Go.Ab
set_option maxRecDepth 100000
set_option maxHeartbeats 16000000

theorem e_size : ∀ (m : Nat) (e : Ex), SizeOf.sizeOf e < m → ∀ q, e.few q = true → Cf En 65 [e.a] [] (.d (.int .i64 e.size)) []
  | 0, _, h, _, _ => absurd h (by omega)
  | m + 1, .mk o c n t g ks, hm, q, hq => by
    obtain ⟨hk, ht, hfew⟩ := few_kids hq
    refine cf_intro mix (fn := Tryd.f65) (by kernel_rfl) rfl (by kernel_rfl) (by decide) (by simp) ?_
    have hf : Ex.size (.mk o c n t g ks) = sizeAll 1 ks := by rw [Ex.size]
    rw [hf]
    generalize hres : sizeAll 1 ks = res
    simp [Ex.a, Ex.c, kidsC_map]
    (repeat' (first | contradiction | exact .of (by kernel_rfl) | refine And.intro ?_ ?_ | intro _ | (refine agrd_cases (fun h => ?_) (fun h => ?_) <;> (have h' := h; (try simp at h'); simp [h, h']))))
    refine aloopT mix (by decide) (fun p : Nat × Int => { s := mkS [(1, .ptr 1 0 0), (3, .d (.int .i64 p.2)), (7, .d (.sl (ks.map Ex.c))), (8, .d (.int .i64 ks.length)), (9, .d (.int .i64 p.1))], b := mkB [(1, 1, .var (Ex.a (.mk o c n t g ks)).cells)] }) (fun p => p.1 ≤ ks.length ∧ sizeAll p.2 (ks.drop p.1) = res) (fun p => ks.length - p.1) (0, 1) (by simp [hres]) (sub_mk _ _ ⟨by simp, by simp, by simp [renOf, Blk.live, Ex.a, Ex.c, kidsC_map], by simp⟩ (by simp [renOf])) ?_
    rintro ⟨i, acc⟩ ⟨hi, ho⟩
    simp only at hi ho
    by_cases hlt : i < ks.length
    · have hlt' : (i : Int) < ks.length := by omega
      have hg : ks[i]? = some ks[i] := List.getElem?_eq_getElem hlt
      have hdr := sizeAll_drop acc hg
      have hkid : SizeOf.sizeOf ks[i] < m := by
        have := Ex.kid_lt (e := .mk o c n t g ks) (k := ks[i]) (List.getElem_mem hlt)
        omega
      simp [Ex.a, Ex.c, kidsC_map, hlt, hlt', hg, Ex.clen, Ex.ctake]
      (repeat' (first | contradiction | exact .of (by kernel_rfl) | refine And.intro ?_ ?_ | intro _ | (refine agrd_cases (fun h => ?_) (fun h => ?_) <;> (have h' := h; (try simp at h'); simp [h, h']))))
      refine acallT_plain (e_size m ks[i] hkid (q + 1) (hfew _ (List.getElem_mem hlt))) (by simp [Ex.a]) ?_
      simp
      (repeat' (first | contradiction | exact .of (by kernel_rfl) | refine And.intro ?_ ?_ | intro _ | (refine agrd_cases (fun h => ?_) (fun h => ?_) <;> (have h' := h; (try simp at h'); simp [h, h']))))
      refine ⟨(i + 1, IntKind.i64.wrap (acc + ks[i].size)), ⟨hlt, ?_⟩, ?_, ?_⟩
      · rw [← ho, hdr]
      · refine sub_mk _ [(1, 1, _)] ⟨by simp, by simp, by simp [renOf, Blk.live, Ex.a, Ex.c, kidsC_map], by simp⟩ ?_
        simp [renOf]
        exact wrap_in (by omega) (by omega)
      · simp; omega
    · have hlt' : ¬ (i : Int) < ks.length := by omega
      simp [Ex.a, Ex.c, kidsC_map, hlt, hlt']
      (repeat' (first | contradiction | exact .of (by kernel_rfl) | refine And.intro ?_ ?_ | intro _ | (refine agrd_cases (fun h => ?_) (fun h => ?_) <;> (have h' := h; (try simp at h'); simp [h, h']))))
      rw [← ho, List.drop_eq_nil_of_le (by omega)]; rfl

mutual
def Ex.dep : Ex → Nat
  | .mk _ _ _ _ _ ks => depAll 0 ks + 1
def depAll : Nat → List Ex → Nat
  | a, [] => a
  | a, e :: es => depAll (max a e.dep) es
end
theorem depAll_drop {l : List Ex} {i : Nat} {x : Ex} (a : Nat) (h : l[i]? = some x) : depAll a (l.drop i) = depAll (max a x.dep) (l.drop (i + 1)) := by
  obtain ⟨hi, rfl⟩ := List.getElem?_eq_some_iff.1 h
  rw [List.drop_eq_getElem_cons hi, depAll]
theorem depAll_le (b : Nat) : ∀ (l : List Ex) (a : Nat), a ≤ b → (∀ e ∈ l, e.dep ≤ b) → depAll a l ≤ b
  | [], a, h, _ => h
  | e :: es, a, h, hl => by
    rw [depAll]
    exact depAll_le b es _ (by have := hl e List.mem_cons_self; omega) (fun x hx => hl x (List.mem_cons_of_mem _ hx))
theorem dep_few : ∀ (m : Nat) (e : Ex), SizeOf.sizeOf e < m → ∀ q, e.few q = true → e.dep + q ≤ 61
  | 0, _, h, _, _ => absurd h (by omega)
  | m + 1, .mk o c n t g ks, hm, q, hq => by
    obtain ⟨hk, ht, hfew⟩ := few_kids hq
    have hq60 : q ≤ 60 := by
      rw [Ex.few] at hq
      by_cases h : 60 < q
      · simp [h] at hq
      · omega
    have := depAll_le (60 - q) ks 0 (by omega) (fun e he => by
      have := dep_few m e (by have := Ex.kid_lt (e := .mk o c n t g ks) (k := e) he; omega) (q + 1) (hfew e he)
      omega)
    rw [Ex.dep]
    omega
theorem e_depth : ∀ (m : Nat) (e : Ex), SizeOf.sizeOf e < m → ∀ q, e.few q = true → Cf En 66 [e.a] [] (.d (.int .i64 e.dep)) []
  | 0, _, h, _, _ => absurd h (by omega)
  | m + 1, .mk o c n t g ks, hm, q, hq => by
    obtain ⟨hk, ht, hfew⟩ := few_kids hq
    have hdep := dep_few _ _ (Nat.lt_succ_self _) q hq
    refine cf_intro mix (fn := Tryd.f66) (by kernel_rfl) rfl (by kernel_rfl) (by decide) (by simp) ?_
    rw [Ex.dep] at hdep ⊢
    generalize hres : depAll 0 ks = res at *
    simp [Ex.a, Ex.c, kidsC_map]
    (repeat' (first | contradiction | exact .of (by kernel_rfl) | refine And.intro ?_ ?_ | intro _ | (refine agrd_cases (fun h => ?_) (fun h => ?_) <;> (have h' := h; (try simp at h'); simp [h, h']))))
    refine aloopT mix (by decide) (fun p : Nat × Nat => { s := mkS [(1, .ptr 1 0 0), (3, .d (.int .i64 p.2)), (7, .d (.sl (ks.map Ex.c))), (8, .d (.int .i64 ks.length)), (9, .d (.int .i64 p.1))], b := mkB [(1, 1, .var (Ex.a (.mk o c n t g ks)).cells)] }) (fun p => p.1 ≤ ks.length ∧ depAll p.2 (ks.drop p.1) = res) (fun p => ks.length - p.1) (0, 0) (by simp [hres]) (sub_mk _ _ ⟨by simp, by simp, by simp [renOf, Blk.live, Ex.a, Ex.c, kidsC_map], by simp⟩ (by simp [renOf])) ?_
    rintro ⟨i, acc⟩ ⟨hi, ho⟩
    simp only at hi ho
    by_cases hlt : i < ks.length
    · have hlt' : (i : Int) < ks.length := by omega
      have hg : ks[i]? = some ks[i] := List.getElem?_eq_getElem hlt
      have hdr := depAll_drop acc hg
      have hkid : SizeOf.sizeOf ks[i] < m := by
        have := Ex.kid_lt (e := .mk o c n t g ks) (k := ks[i]) (List.getElem_mem hlt)
        omega
      have hmax : (if (acc : Int) < ks[i].dep then (ks[i].dep : Int) else acc) = ((max acc ks[i].dep : Nat) : Int) := by split <;> omega
      simp [Ex.a, Ex.c, kidsC_map, hlt, hlt', hg, Ex.clen, Ex.ctake]
      (repeat' (first | contradiction | exact .of (by kernel_rfl) | refine And.intro ?_ ?_ | intro _ | (refine agrd_cases (fun h => ?_) (fun h => ?_) <;> (have h' := h; (try simp at h'); simp [h, h']))))
      refine acallT_plain (e_depth m ks[i] hkid (q + 1) (hfew _ (List.getElem_mem hlt))) (by simp [Ex.a]) ?_
      simp
      (repeat' (first | contradiction | exact .of (by kernel_rfl) | refine And.intro ?_ ?_ | intro _ | (refine agrd_cases (fun h => ?_) (fun h => ?_) <;> (have h' := h; (try simp at h'); simp [h, h']))))
      refine ⟨(i + 1, max acc ks[i].dep), ⟨hlt, ?_⟩, ?_, ?_⟩
      · rw [← ho, hdr]
      · refine sub_mk _ [(1, 1, _)] ⟨by simp, by simp, by simp [renOf, Blk.live, Ex.a, Ex.c, kidsC_map], by simp⟩ ?_
        simp [renOf]
        refine ⟨?_, wrap_in (by omega) (by omega)⟩
        split <;> omega
      · simp; omega
    · have hlt' : ¬ (i : Int) < ks.length := by omega
      have hacc : acc = res := by
        rw [← ho, List.drop_eq_nil_of_le (by omega)]; rfl
      have hw := wrap_in (n := (acc : Int) + 1) (by omega) (by omega)
      simp [Ex.a, Ex.c, kidsC_map, hlt, hlt', hw]
      (repeat' (first | contradiction | exact .of (by kernel_rfl) | refine And.intro ?_ ?_ | intro _ | (refine agrd_cases (fun h => ?_) (fun h => ?_) <;> (have h' := h; (try simp at h'); simp [h, h']))))
      all_goals omega
theorem w_dep {ts : List Int} {d : Nat} {k : Int} {e : Ex} (h : W ts d k e) : e.dep ≤ d + 1 := by
  induction h with
  | col d j k hj => simp [Ex.dep, depAll]
  | con d v k hv hk _ _ =>
    unfold constOf
    repeat' split
    all_goals simp [Ex.dep, depAll]
  | inn d x a b ks _ _ _ hl ia ib ik =>
    rw [Ex.dep]
    have := depAll_le (d + 1) (a :: b :: ks) 0 (by omega) (fun e he => by
      rcases List.mem_cons.1 he with rfl | he
      · exact ia
      · rcases List.mem_cons.1 he with rfl | he
        · exact ib
        · exact ik e he)
    omega
  | _ => simp only [Ex.dep, depAll] at *; omega

theorem e_isType (t : Int) : Cf En 87 [.d (.int .i64 t)] [] (.d (.bool (t == 1 || (t == 2 || t == 3)))) [] := by
  refine cf_intro mix (fn := Tryd.f87) (by kernel_rfl) rfl (by kernel_rfl) (by decide) (by simp) ?_
  simp
  (repeat' (first | contradiction | exact .of (by kernel_rfl) | refine And.intro ?_ ?_ | intro _ | (refine agrd_cases (fun h => ?_) (fun h => ?_) <;> (have h' := h; (try simp at h'); simp [h, h']))))
  all_goals simp_all

/-! fit -/
theorem f_one (x t : Int) : Cf En 105 [.d (.int .i64 x), .ptr 1000000 0 0] [.var [.d (.int .i64 t)]] (.d (.bool (x != t))) [.var [.d (.int .i64 t)]] := by
  refine cf_intro mix (fn := Tryd.f105) (by kernel_rfl) rfl (by kernel_rfl) (by decide) (by simp) ?_
  simp
  (repeat' (first | contradiction | exact .of (by kernel_rfl) | refine And.intro ?_ ?_ | intro _ | (refine agrd_cases (fun h => ?_) (fun h => ?_) <;> (have h' := h; (try simp at h'); simp [h, h']))))
def idxNe (t : Int) (l : List Int) : Int := match l.findIdx? (fun x => x != t) with
  | some i => i
  | none => -1
theorem f_index (l : List Int) (hl : l.length ≤ 1000) (t : Int) : Cf En 117 [.d (.sl (ints l)), .clo 105 [.ptr 1000000 0 0]] [.var [.d (.int .i64 t)]] (.d (.int .i64 (idxNe t l))) [.var [.d (.int .i64 t)]] := by
  refine cf_intro mix (fn := Tryd.f117) (by kernel_rfl) rfl (by kernel_rfl) (by decide) (by simp) ?_
  simp [ints]
  (repeat' (first | contradiction | exact .of (by kernel_rfl) | refine And.intro ?_ ?_ | intro _ | (refine agrd_cases (fun h => ?_) (fun h => ?_) <;> (have h' := h; (try simp at h'); simp [h, h']))))
  refine aloopT mix (by decide) (fun i : Nat => { s := mkS [(0, .d (.sl (ints l))), (1, .clo 105 [.ptr 1000000 0 0]), (7, .d (.int .i64 l.length)), (8, .d (.int .i64 i))], b := mkB [(1000000, 1000000, .var [.d (.int .i64 t)])] }) (fun i : Nat => i ≤ l.length ∧ ∀ j (h : j < l.length), j < i → l[j] = t) (fun i => l.length - i) 0 (by simp) (sub_mk _ [(1000000, 1000000, _)] ⟨by simp, by simp, by simp [renOf, Blk.live], base1⟩ (by simp [renOf, ints])) ?_
  rintro i ⟨hi, ho⟩
  by_cases hlt : i < l.length
  · have hlt' : (i : Int) < l.length := by omega
    have hg : l[i]? = some l[i] := List.getElem?_eq_getElem hlt
    simp [hlt, hlt', ints, hg]
    (repeat' (first | contradiction | exact .of (by kernel_rfl) | refine And.intro ?_ ?_ | intro _ | (refine agrd_cases (fun h => ?_) (fun h => ?_) <;> (have h' := h; (try simp at h'); simp [h, h']))))
    refine acallT_hand [1000000] (f_one l[i] t) (by simp) (by simp) (by simp) (by simp) (by simp) ?_
    by_cases hx : l[i] = t
    · simp [hx]
      (repeat' (first | contradiction | exact .of (by kernel_rfl) | refine And.intro ?_ ?_ | intro _ | (refine agrd_cases (fun h => ?_) (fun h => ?_) <;> (have h' := h; (try simp at h'); simp [h, h']))))
      refine ⟨i + 1, ⟨hlt, ?_⟩, ?_, ?_⟩
      · intro j hj hji
        rcases Nat.lt_or_ge j i with c | c
        · exact ho j hj c
        · have : j = i := by omega
          subst this; exact hx
      · refine sub_mk _ [(1000000, 1000000, _)] ⟨by simp, by simp, by simp [renOf, Blk.live], base1⟩ ?_
        simp [renOf, ints]
        exact wrap_in (by omega) (by omega)
      · simp; omega
    · have hf : idxNe t l = i := by
        unfold idxNe
        have : l.findIdx? (fun x => x != t) = some i := by
          rw [List.findIdx?_eq_some_iff_getElem]
          exact ⟨hlt, by simp [hx], fun j hj => by simp [ho j (by omega) hj]⟩
        rw [this]
      simp [hx, hf]
      (repeat' (first | contradiction | exact .of (by kernel_rfl) | refine And.intro ?_ ?_ | intro _ | (refine agrd_cases (fun h => ?_) (fun h => ?_) <;> (have h' := h; (try simp at h'); simp [h, h']))))
  · have hf : idxNe t l = -1 := by
      unfold idxNe
      have : l.findIdx? (fun x => x != t) = none := by
        rw [List.findIdx?_eq_none_iff]
        intro x hx
        obtain ⟨j, hj, rfl⟩ := List.getElem_of_mem hx
        simp [ho j hj (by omega)]
      rw [this]
    simp [hlt, hf]
    (repeat' (first | contradiction | exact .of (by kernel_rfl) | refine And.intro ?_ ?_ | intro _ | (refine agrd_cases (fun h => ?_) (fun h => ?_) <;> (have h' := h; (try simp at h'); simp [h, h']))))
theorem idxNe_all (t : Int) (l : List Int) : decide (idxNe t l ≥ 0) = !l.all (· == t) := by
  unfold idxNe
  cases h : l.findIdx? (fun x => x != t) with
  | none =>
    rw [List.findIdx?_eq_none_iff] at h
    have : l.all (· == t) = true := by rw [List.all_eq_true]; intro x hx; have := h x hx; simpa using this
    simp [this]
  | some i =>
    rw [List.findIdx?_eq_some_iff_getElem] at h
    obtain ⟨hi, h, _⟩ := h
    have : l.all (· == t) = false := by
      rw [List.all_eq_false]
      exact ⟨l[i], List.getElem_mem hi, by simpa using h⟩
    simp [this]
theorem f_contains (l : List Int) (hl : l.length ≤ 1000) (t : Int) : Cf En 104 [.d (.sl (ints l)), .clo 105 [.ptr 1000000 0 0]] [.var [.d (.int .i64 t)]] (.d (.bool (!l.all (· == t)))) [.var [.d (.int .i64 t)]] := by
  refine cf_intro mix (fn := Tryd.f104) (by kernel_rfl) rfl (by kernel_rfl) (by decide) (by simp) ?_
  simp
  (repeat' (first | contradiction | exact .of (by kernel_rfl) | refine And.intro ?_ ?_ | intro _ | (refine agrd_cases (fun h => ?_) (fun h => ?_) <;> (have h' := h; (try simp at h'); simp [h, h']))))
  refine acallT_hand [1000000] (f_index l hl t) (by simp) (by simp) (by simp) (by simp) (by simp) ?_
  have := idxNe_all t l
  simp at this
  simp
  (repeat' (first | contradiction | exact .of (by kernel_rfl) | refine And.intro ?_ ?_ | intro _ | (refine agrd_cases (fun h => ?_) (fun h => ?_) <;> (have h' := h; (try simp at h'); simp [h, h']))))
  all_goals simpa using this
theorem f_every (l : List Int) (hl : l.length ≤ 1000) (t : Int) : Cf En 103 [.d (.int .i64 t), .d (.sl (ints l))] [] (.d (.bool (l.all (· == t)))) [] := by
  refine cf_intro mix (fn := Tryd.f103) (by kernel_rfl) rfl (by kernel_rfl) (by decide) (by simp) ?_
  simp
  (repeat' (first | contradiction | exact .of (by kernel_rfl) | refine And.intro ?_ ?_ | intro _ | (refine agrd_cases (fun h => ?_) (fun h => ?_) <;> (have h' := h; (try simp at h'); simp [h, h']))))
  refine acallT_hand [2] (f_contains l hl t) (by simp) (by simp) (by simp) (by simp) (by simp) ?_
  simp
  (repeat' (first | contradiction | exact .of (by kernel_rfl) | refine And.intro ?_ ?_ | intro _ | (refine agrd_cases (fun h => ?_) (fun h => ?_) <;> (have h' := h; (try simp at h'); simp [h, h']))))
def fitOk (ty : Int) (l : List Int) : Bool :=
  if ty = 1 then l.all (· == 1) else if ty = 2 then l.all (· == 3) else if ty = 3 then l.all (· == 2)
  else if ty = 4 then l.all (· == (l[0]?).getD 0) else if ty = 6 then (l[0]?).getD 0 == 2 && (l[1]?).getD 0 == (l[2]?).getD 0 else true
theorem e_fit (w : List UInt8) (k ty own : Int) (l : List Int) (hl : l.length ≤ 1000) (h4 : ty = 4 → 1 ≤ l.length) (h6 : ty = 6 → l.length = 3) :
    Cf En 88 [.agg [.d (.str w), .d (.int .i64 k), .d (.int .i64 ty), .d (.int .i64 own)], .d (.sl (ints l))] [] (.d (.bool (fitOk ty l))) [] := by
  refine cf_intro mix (fn := Tryd.f88) (by kernel_rfl) rfl (by kernel_rfl) (by decide) (by simp) ?_
  by_cases t1 : ty = 1
  · subst t1
    simp [fitOk]
    (repeat' (first | contradiction | exact .of (by kernel_rfl) | refine And.intro ?_ ?_ | intro _ | (refine agrd_cases (fun h => ?_) (fun h => ?_) <;> (have h' := h; (try simp at h'); simp [h, h']))))
    refine acallT_plain (f_every l hl 1) (by simp [V.a]) ?_
    simp
    (repeat' (first | contradiction | exact .of (by kernel_rfl) | refine And.intro ?_ ?_ | intro _ | (refine agrd_cases (fun h => ?_) (fun h => ?_) <;> (have h' := h; (try simp at h'); simp [h, h']))))
  by_cases t2 : ty = 2
  · subst t2
    simp [fitOk]
    (repeat' (first | contradiction | exact .of (by kernel_rfl) | refine And.intro ?_ ?_ | intro _ | (refine agrd_cases (fun h => ?_) (fun h => ?_) <;> (have h' := h; (try simp at h'); simp [h, h']))))
    refine acallT_plain (f_every l hl 3) (by simp [V.a]) ?_
    simp
    (repeat' (first | contradiction | exact .of (by kernel_rfl) | refine And.intro ?_ ?_ | intro _ | (refine agrd_cases (fun h => ?_) (fun h => ?_) <;> (have h' := h; (try simp at h'); simp [h, h']))))
  by_cases t3 : ty = 3
  · subst t3
    simp [fitOk]
    (repeat' (first | contradiction | exact .of (by kernel_rfl) | refine And.intro ?_ ?_ | intro _ | (refine agrd_cases (fun h => ?_) (fun h => ?_) <;> (have h' := h; (try simp at h'); simp [h, h']))))
    refine acallT_plain (f_every l hl 2) (by simp [V.a]) ?_
    simp
    (repeat' (first | contradiction | exact .of (by kernel_rfl) | refine And.intro ?_ ?_ | intro _ | (refine agrd_cases (fun h => ?_) (fun h => ?_) <;> (have h' := h; (try simp at h'); simp [h, h']))))
  by_cases t4 : ty = 4
  · subst t4
    have hg : l[0]? = some (l[0]'(by have := h4 rfl; omega)) := List.getElem?_eq_getElem _
    simp [fitOk, ints, hg]
    (repeat' (first | contradiction | exact .of (by kernel_rfl) | refine And.intro ?_ ?_ | intro _ | (refine agrd_cases (fun h => ?_) (fun h => ?_) <;> (have h' := h; (try simp at h'); simp [h, h']))))
    refine acallT_plain (f_every l hl ((l[0]?).getD 0)) (by simp [ints, hg]) ?_
    simp [hg]
    (repeat' (first | contradiction | exact .of (by kernel_rfl) | refine And.intro ?_ ?_ | intro _ | (refine agrd_cases (fun h => ?_) (fun h => ?_) <;> (have h' := h; (try simp at h'); simp [h, h']))))
  by_cases t6 : ty = 6
  · subst t6
    obtain ⟨a, b, c, rfl⟩ : ∃ a b c, l = [a, b, c] := by
      match l, h6 rfl with
      | [a, b, c], _ => exact ⟨a, b, c, rfl⟩
    simp [fitOk, ints]
    (repeat' (first | contradiction | exact .of (by kernel_rfl) | refine And.intro ?_ ?_ | intro _ | (refine agrd_cases (fun h => ?_) (fun h => ?_) <;> (have h' := h; (try simp at h'); simp [h, h']))))
    all_goals simp_all
  simp [fitOk, t1, t2, t3, t4, t6]
  (repeat' (first | contradiction | exact .of (by kernel_rfl) | refine And.intro ?_ ?_ | intro _ | (refine agrd_cases (fun h => ?_) (fun h => ?_) <;> (have h' := h; (try simp at h'); simp [h, h', t1, t2, t3, t4, t6]))))
/-! clean -/
theorem cl_node (o : Int) (ks : List Ex) (h1 : o ≠ 1) (h2 : o ≠ 2) (h3 : o ≠ 3) (h4 : o ≠ 4) (h5 : o ≠ 5) : Cf En 86 [(Ex.mk o 0 0 [] 0 ks).a] [] (.d (.bool true)) [] := by
  refine cf_intro mix (fn := Tryd.f86) (by kernel_rfl) rfl (by kernel_rfl) (by decide) (by simp) ?_
  simp [Ex.a, Ex.c, kidsC_map, h1, h2, h3, h4, h5]
  (repeat' (first | contradiction | exact .of (by kernel_rfl) | refine And.intro ?_ ?_ | intro _ | (refine agrd_cases (fun h => ?_) (fun h => ?_) <;> (have h' := h; (try simp at h'); simp [h, h']))))
theorem cl_col (g : Int) : Cf En 86 [(Ex.mk 5 0 0 [] g []).a] [] (.d (.bool true)) [] := by
  refine cf_intro mix (fn := Tryd.f86) (by kernel_rfl) rfl (by kernel_rfl) (by decide) (by simp) ?_
  simp [Ex.a, Ex.c, kidsC_map]
  (repeat' (first | contradiction | exact .of (by kernel_rfl) | refine And.intro ?_ ?_ | intro _ | (refine agrd_cases (fun h => ?_) (fun h => ?_) <;> (have h' := h; (try simp at h'); simp [h, h']))))
theorem cl_null (c : Int) (h : 1 ≤ c ∧ c ≤ 3) : Cf En 86 [(Ex.mk 1 c 0 [] 0 []).a] [] (.d (.bool true)) [] := by
  refine cf_intro mix (fn := Tryd.f86) (by kernel_rfl) rfl (by kernel_rfl) (by decide) (by simp) ?_
  simp [Ex.a, Ex.c, kidsC_map]
  (repeat' (first | contradiction | exact .of (by kernel_rfl) | refine And.intro ?_ ?_ | intro _ | (refine agrd_cases (fun h => ?_) (fun h => ?_) <;> (have h' := h; (try simp at h'); simp [h, h']))))
  refine acallT_plain (e_isType c) (by simp [V.a]) ?_
  have hc : (c == 1 || (c == 2 || c == 3)) = true := by simp; omega
  simp [hc]
  (repeat' (first | contradiction | exact .of (by kernel_rfl) | refine And.intro ?_ ?_ | intro _ | (refine agrd_cases (fun h => ?_) (fun h => ?_) <;> (have h' := h; (try simp at h'); simp [h, h']))))
theorem cl_int (n : Int) (h : V.valid ⟨1, n, []⟩ = true) : Cf En 86 [(Ex.mk 2 0 n [] 0 []).a] [] (.d (.bool true)) [] := by
  refine cf_intro mix (fn := Tryd.f86) (by kernel_rfl) rfl (by kernel_rfl) (by decide) (by simp) ?_
  simp [Ex.a, Ex.c, kidsC_map]
  (repeat' (first | contradiction | exact .of (by kernel_rfl) | refine And.intro ?_ ?_ | intro _ | (refine agrd_cases (fun h => ?_) (fun h => ?_) <;> (have h' := h; (try simp at h'); simp [h, h']))))
  refine acallT_plain (v_valid ⟨1, n, []⟩) (by simp [V.a]) ?_
  simp [h]
  (repeat' (first | contradiction | exact .of (by kernel_rfl) | refine And.intro ?_ ?_ | intro _ | (refine agrd_cases (fun h => ?_) (fun h => ?_) <;> (have h' := h; (try simp at h'); simp [h, h']))))
theorem cl_bool (n : Int) (h : V.valid ⟨2, n, []⟩ = true) : Cf En 86 [(Ex.mk 3 0 n [] 0 []).a] [] (.d (.bool true)) [] := by
  refine cf_intro mix (fn := Tryd.f86) (by kernel_rfl) rfl (by kernel_rfl) (by decide) (by simp) ?_
  simp [Ex.a, Ex.c, kidsC_map]
  (repeat' (first | contradiction | exact .of (by kernel_rfl) | refine And.intro ?_ ?_ | intro _ | (refine agrd_cases (fun h => ?_) (fun h => ?_) <;> (have h' := h; (try simp at h'); simp [h, h']))))
  refine acallT_plain (v_valid ⟨2, n, []⟩) (by simp [V.a]) ?_
  simp [h]
  (repeat' (first | contradiction | exact .of (by kernel_rfl) | refine And.intro ?_ ?_ | intro _ | (refine agrd_cases (fun h => ?_) (fun h => ?_) <;> (have h' := h; (try simp at h'); simp [h, h']))))
theorem cl_text (t : List UInt8) (h : V.valid ⟨3, 0, t⟩ = true) : Cf En 86 [(Ex.mk 4 0 0 t 0 []).a] [] (.d (.bool true)) [] := by
  refine cf_intro mix (fn := Tryd.f86) (by kernel_rfl) rfl (by kernel_rfl) (by decide) (by simp) ?_
  simp [Ex.a, Ex.c, kidsC_map]
  (repeat' (first | contradiction | exact .of (by kernel_rfl) | refine And.intro ?_ ?_ | intro _ | (refine agrd_cases (fun h => ?_) (fun h => ?_) <;> (have h' := h; (try simp at h'); simp [h, h']))))
  refine acallT_plain (v_valid ⟨3, 0, t⟩) (by simp [V.a]) ?_
  simp [h]
  (repeat' (first | contradiction | exact .of (by kernel_rfl) | refine And.intro ?_ ?_ | intro _ | (refine agrd_cases (fun h => ?_) (fun h => ?_) <;> (have h' := h; (try simp at h'); simp [h, h']))))

/-! typ -/
def tyF2 (ts : List Int) (o c n g : Int) (t : List UInt8) (ks : List Ex) (kts : List Int) : Nat → St
  | 0 => { s := mkS [(0, .d (.sl (ints ts))), (3, .ptr 3 0 0), (4, .d (.int .i64 0)), (5, .d (.int .i64 0)), (6, .nils), (15, .d (.sl (ks.map Ex.c))), (16, .d (.int .i64 ks.length)), (17, .d (.int .i64 0))], b := mkB [(3, 3, .var [.d (.int .i64 o), .d (.int .i64 c), .d (.int .i64 n), .d (.str t), .d (.int .i64 g), .d (.sl (ks.map Ex.c))])] }
  | i + 1 => { s := mkS [(0, .d (.sl (ints ts))), (3, .ptr 3 0 0), (4, .d (.int .i64 0)), (5, .d (.int .i64 0)), (6, .ref 900 0 (i + 1) 1), (15, .d (.sl (ks.map Ex.c))), (16, .d (.int .i64 ks.length)), (17, .d (.int .i64 (i + 1 : Nat)))], b := mkB [(3, 3, .var [.d (.int .i64 o), .d (.int .i64 c), .d (.int .i64 n), .d (.str t), .d (.int .i64 g), .d (.sl (ks.map Ex.c))]), (900, 900, .arr 3 1 (ints (kts.take (i + 1))) false)] }
def tyRes (ts : List Int) (o c g : Int) (kts : List Int) : Int :=
  if o = 5 then (ts[g.toNat]?).getD 0 else if o = 1 then c else if (opOf o).2.2.2 = 0 then (kts[kts.length - 1]?).getD 0 else (opOf o).2.2.2

theorem typ_gen (ts : List Int) (hts : ts.length ≤ 1000) (o c n g : Int) (t : List UInt8) (ks : List Ex) (kts : List Int) (hk : ks.length ≤ 12) (hlen : kts.length = ks.length)
    (hrec : ∀ (i : Nat) (h : i < ks.length), Cf Eo 67 [.d (.sl (ints ts)), ks[i].a] [] (.tup [.d (.int .i64 (kts[i]'(by omega))), .d (.int .i64 0)]) [])
    (hcn : cntd o ks.length = true) (hcl : Cf En 86 [(Ex.mk o c n t g ks).a] [] (.d (.bool true)) [])
    (h5 : o = 5 → 0 ≤ g ∧ g < ts.length ∧ ∃ k, ts[g.toNat]? = some k ∧ 1 ≤ k ∧ k ≤ 3)
    (hfit : fitOk (opOf o).2.2.1 kts = true) (f4 : (opOf o).2.2.1 = 4 → 1 ≤ kts.length) (f6 : (opOf o).2.2.1 = 6 → kts.length = 3) (hown : o ≠ 5 → o ≠ 1 → (opOf o).2.2.2 = 0 → 1 ≤ kts.length) :
    Cf Eo 67 [.d (.sl (ints ts)), (Ex.mk o c n t g ks).a] [] (.tup [.d (.int .i64 (tyRes ts o c g kts)), .d (.int .i64 0)]) [] := by
  refine cf_intro mixo (fn := Tryd.f67) (by kernel_rfl) rfl (by kernel_rfl) (by decide) (by simp) ?_
  have hio : isOp o = true := by
    unfold cntd at hcn
    simp only [Bool.and_eq_true] at hcn
    exact hcn.1
  have hkn := e_known o c n t g ks
  have hft := up (e_fit (opOf o).1 (opOf o).2.1 (opOf o).2.2.1 (opOf o).2.2.2 kts (by omega) f4 f6)
  rw [hfit] at hft
  have hcl := up hcl
  rw [hio, hcn, show findO o = opOf o from by simp [findO, hio]] at hkn
  rw [Ex.a] at hkn hcl
  simp [Ex.a, Ex.c, kidsC_map] at hkn hcl ⊢
  (repeat' (first | contradiction | exact .of (by kernel_rfl) | refine And.intro ?_ ?_ | intro _ | (refine agrd_cases (fun h => ?_) (fun h => ?_) <;> (have h' := h; (try simp at h'); simp [h, h']))))
  refine aloopT mixo (by decide) (tyF2 ts o c n g t ks kts) (fun i : Nat => i ≤ ks.length) (fun i => ks.length - i) 0 (by simp) (sub_mk [(0, _), (3, _), (4, _), (5, _), (6, _), (15, _), (16, _), (17, _)] [(3, 3, _)] ⟨by simp, by simp, by simp [renOf, Blk.live], by simp⟩ (by simp [renOf])) ?_
  intro i hi
  by_cases hlt : i < ks.length
  · have hgi : ks[i]? = some ks[i] := List.getElem?_eq_getElem hlt
    have hr := hrec i hlt
    have hki : kts[i]? = some (kts[i]'(by omega)) := List.getElem?_eq_getElem _
    have htk : kts.take (i + 1) = kts.take i ++ [kts[i]'(by omega)] := by
      rw [List.take_add_one, hki]; rfl
    generalize kts[i]'(by omega) = kk at hr htk
    cases i with
    | zero =>
      have hlt2 : (0 : Int) < ks.length := by omega
      simp [tyF2, hlt, hlt2, hgi, Ex.clen, Ex.ctake]
      (repeat' (first | contradiction | exact .of (by kernel_rfl) | refine And.intro ?_ ?_ | intro _ | (refine agrd_cases (fun h => ?_) (fun h => ?_) <;> (have h' := h; (try simp at h'); simp [h, h']))))
      refine acallT_plain hr (by simp [Ex.a]) ?_
      simp
      (repeat' (first | contradiction | exact .of (by kernel_rfl) | refine And.intro ?_ ?_ | intro _ | (refine agrd_cases (fun h => ?_) (fun h => ?_) <;> (have h' := h; (try simp at h'); simp [h, h']))))
      refine ⟨1, hlt, ?_, ?_⟩
      · refine sub_mk [(0, _), (3, _), (4, _), (5, _), (6, _), (15, _), (16, _), (17, _)] [(3, 3, _), (900, 33, _)] ⟨by simp, by simp, ?_, by simp⟩ ?_
        · simp only [Nat.zero_add, List.take_zero, List.nil_append] at htk
          simp [renOf, Blk.live, htk, ints]
        · simp [renOf]
          exact wrap_in (by omega) (by omega)
      · simp; omega
    | succ i =>
      have hlt2 : ((i + 1 : Nat) : Int) < ks.length := by omega
      have hlt3 : (i : Int) + 1 < ks.length := by omega
      have hp : (0 : Int) ≤ (i : Int) + 1 := by omega
      have hmin : min (i + 1) kts.length = i + 1 := by omega
      have s1 : (i + 1 + 1) * 8 ≤ 140737488355328 := by omega
      have s2 : i ≤ 9223372036854775805 := by omega
      simp [tyF2, hlt, hlt2, hlt3, hp, hgi, Ex.clen, Ex.ctake]
      (repeat' (first | contradiction | exact .of (by kernel_rfl) | refine And.intro ?_ ?_ | intro _ | (refine agrd_cases (fun h => ?_) (fun h => ?_) <;> (have h' := h; (try simp at h'); simp [h, h']))))
      refine acallT_plain hr (by simp [Ex.a]) ?_
      simp [ints, hmin, s1, s2]
      (repeat' (first | contradiction | exact .of (by kernel_rfl) | refine And.intro ?_ ?_ | intro _ | (refine agrd_cases (fun h => ?_) (fun h => ?_) <;> (have h' := h; (try simp at h'); simp [h, h']))))
      refine ⟨i + 2, by omega, ?_, ?_⟩
      · refine sub_mk [(0, _), (3, _), (4, _), (5, _), (6, _), (15, _), (16, _), (17, _)] [(3, 3, _), (900, 33, _)] ⟨by simp, by simp, ?_, by simp⟩ ?_
        · simp [renOf, Blk.live, htk, ints]
        · simp [renOf, ints]
          rw [wrap_in (by omega) (by omega)]
      · simp; omega
  have hie : i = ks.length := by omega
  subst hie
  clear hrec hi hlt
  have hres : tyRes ts o c g kts = tyRes ts o c g kts := rfl
  cases hkl : ks.length with
  | zero =>
    have hks : ks = [] := List.eq_nil_of_length_eq_zero hkl
    subst hks
    have hkts : kts = [] := List.eq_nil_of_length_eq_zero (by simpa using hlen)
    subst hkts
    by_cases ho : o = 5
    · subst ho
      obtain ⟨g0, g1, k, hgk, hk1, hk3⟩ := h5 rfl
      have hty : (k == 1 || (k == 2 || k == 3)) = true := by simp; omega
      have hn0 : ¬ g < 0 := by omega
      have hn1 : ¬ (ts.length : Int) ≤ g := by omega
      rw [show tyRes ts 5 c g [] = k from by simp [tyRes, hgk]]
      simp [tyF2]
      (repeat' (first | contradiction | exact .of (by kernel_rfl) | refine And.intro ?_ ?_ | intro _ | (refine agrd_cases (fun h => ?_) (fun h => ?_) <;> (have h' := h; (try simp at h'); simp [h, h']))))
      refine acallT_plain hkn (by simp) ?_
      simp [opA]
      (repeat' (first | contradiction | exact .of (by kernel_rfl) | refine And.intro ?_ ?_ | intro _ | (refine agrd_cases (fun h => ?_) (fun h => ?_) <;> (have h' := h; (try simp at h'); simp [h, h']))))
      refine acallT_plain hcl (by simp) ?_
      simp [hn0, hn1, g0, ints, hgk]
      (repeat' (first | contradiction | exact .of (by kernel_rfl) | refine And.intro ?_ ?_ | intro _ | (refine agrd_cases (fun h => ?_) (fun h => ?_) <;> (have h' := h; (try simp at h'); simp [h, h', hn0, hn1, g0, hgk]))))
      refine acallT_plain (up (e_isType k)) (by simp) ?_
      simp [hty]
      (repeat' (first | contradiction | exact .of (by kernel_rfl) | refine And.intro ?_ ?_ | intro _ | (refine agrd_cases (fun h => ?_) (fun h => ?_) <;> (have h' := h; (try simp at h'); simp [h, h']))))
      refine acallT_plain hft (by simp [ints]) ?_
      simp [g0, hgk, ints]
      (repeat' (first | contradiction | exact .of (by kernel_rfl) | refine And.intro ?_ ?_ | intro _ | (refine agrd_cases (fun h => ?_) (fun h => ?_) <;> (have h' := h; (try simp at h'); simp [h, h']))))
    · by_cases ho1 : o = 1
      · subst ho1
        rw [show tyRes ts 1 c g [] = c from by simp [tyRes]]
        simp [tyF2]
        (repeat' (first | contradiction | exact .of (by kernel_rfl) | refine And.intro ?_ ?_ | intro _ | (refine agrd_cases (fun h => ?_) (fun h => ?_) <;> (have h' := h; (try simp at h'); simp [h, h']))))
        refine acallT_plain hkn (by simp) ?_
        simp [opA]
        (repeat' (first | contradiction | exact .of (by kernel_rfl) | refine And.intro ?_ ?_ | intro _ | (refine agrd_cases (fun h => ?_) (fun h => ?_) <;> (have h' := h; (try simp at h'); simp [h, h']))))
        refine acallT_plain hcl (by simp) ?_
        simp
        (repeat' (first | contradiction | exact .of (by kernel_rfl) | refine And.intro ?_ ?_ | intro _ | (refine agrd_cases (fun h => ?_) (fun h => ?_) <;> (have h' := h; (try simp at h'); simp [h, h']))))
        refine acallT_plain hft (by simp [ints]) ?_
        simp
        (repeat' (first | contradiction | exact .of (by kernel_rfl) | refine And.intro ?_ ?_ | intro _ | (refine agrd_cases (fun h => ?_) (fun h => ?_) <;> (have h' := h; (try simp at h'); simp [h, h']))))
      · have hw0 : ¬ (opOf o).2.2.2 = 0 := fun h => by have := hown ho ho1 h; simp at this
        rw [show tyRes ts o c g [] = (opOf o).2.2.2 from by simp [tyRes, ho, ho1, hw0]]
        simp [tyF2]
        (repeat' (first | contradiction | exact .of (by kernel_rfl) | refine And.intro ?_ ?_ | intro _ | (refine agrd_cases (fun h => ?_) (fun h => ?_) <;> (have h' := h; (try simp at h'); simp [h, h']))))
        refine acallT_plain hkn (by simp) ?_
        simp [opA]
        (repeat' (first | contradiction | exact .of (by kernel_rfl) | refine And.intro ?_ ?_ | intro _ | (refine agrd_cases (fun h => ?_) (fun h => ?_) <;> (have h' := h; (try simp at h'); simp [h, h']))))
        refine acallT_plain hcl (by simp) ?_
        simp [ho]
        (repeat' (first | contradiction | exact .of (by kernel_rfl) | refine And.intro ?_ ?_ | intro _ | (refine agrd_cases (fun h => ?_) (fun h => ?_) <;> (have h' := h; (try simp at h'); simp [h, h', ho]))))
        refine acallT_plain hft (by simp [ints]) ?_
        simp [ho, ho1, hw0]
        (repeat' (first | contradiction | exact .of (by kernel_rfl) | refine And.intro ?_ ?_ | intro _ | (refine agrd_cases (fun h => ?_) (fun h => ?_) <;> (have h' := h; (try simp at h'); simp [h, h', ho, ho1, hw0]))))
  | succ i =>
    have ho : o ≠ 5 := by
      rintro rfl
      rw [hkl] at hcn
      simp [cntd, isOp, opOf, ops] at hcn
      omega
    have ho1 : o ≠ 1 := by
      rintro rfl
      rw [hkl] at hcn
      simp [cntd, isOp, opOf, ops] at hcn
      omega
    have hkt : kts.length = i + 1 := by omega
    have htk : kts.take (i + 1) = kts := List.take_of_length_le (by omega)
    have htk2 : List.take (i + 1) (List.map (fun n => [D.int .i64 n]) kts) = List.map (fun n => [D.int .i64 n]) kts := List.take_of_length_le (by simp; omega)
    by_cases hw0 : (opOf o).2.2.2 = 0
    · have hgk : kts[i]? = some (kts[i]'(by omega)) := List.getElem?_eq_getElem _
      have hwi := wrap_in (n := (i : Int)) (by omega) (by omega)
      have hp : (0 : Int) ≤ i := by omega
      rw [show tyRes ts o c g kts = kts[i]'(by omega) from by simp [tyRes, ho, ho1, hw0, hkt, hgk]]
      simp [tyF2, htk, hkl]
      (repeat' (first | contradiction | exact .of (by kernel_rfl) | refine And.intro ?_ ?_ | intro _ | (refine agrd_cases (fun h => ?_) (fun h => ?_) <;> (have h' := h; (try simp at h'); simp [h, h']))))
      refine acallT_plain hkn (by simp) ?_
      simp [opA]
      (repeat' (first | contradiction | exact .of (by kernel_rfl) | refine And.intro ?_ ?_ | intro _ | (refine agrd_cases (fun h => ?_) (fun h => ?_) <;> (have h' := h; (try simp at h'); simp [h, h']))))
      refine acallT_plain hcl (by simp) ?_
      simp [ho]
      (repeat' (first | contradiction | exact .of (by kernel_rfl) | refine And.intro ?_ ?_ | intro _ | (refine agrd_cases (fun h => ?_) (fun h => ?_) <;> (have h' := h; (try simp at h'); simp [h, h', ho]))))
      refine acallT_plain hft (by simp [ints, hkt, htk2]) ?_
      simp [ho, ho1, hw0, hwi, ints, hkt, htk2, hgk]
      (repeat' (first | contradiction | exact .of (by kernel_rfl) | refine And.intro ?_ ?_ | intro _ | (refine agrd_cases (fun h => ?_) (fun h => ?_) <;> (have h' := h; (try simp at h'); simp [h, h', ho, ho1, hw0, hwi]))))
    · rw [show tyRes ts o c g kts = (opOf o).2.2.2 from by simp [tyRes, ho, ho1, hw0]]
      simp [tyF2, htk, hkl]
      (repeat' (first | contradiction | exact .of (by kernel_rfl) | refine And.intro ?_ ?_ | intro _ | (refine agrd_cases (fun h => ?_) (fun h => ?_) <;> (have h' := h; (try simp at h'); simp [h, h']))))
      refine acallT_plain hkn (by simp) ?_
      simp [opA]
      (repeat' (first | contradiction | exact .of (by kernel_rfl) | refine And.intro ?_ ?_ | intro _ | (refine agrd_cases (fun h => ?_) (fun h => ?_) <;> (have h' := h; (try simp at h'); simp [h, h']))))
      refine acallT_plain hcl (by simp) ?_
      simp [ho]
      (repeat' (first | contradiction | exact .of (by kernel_rfl) | refine And.intro ?_ ?_ | intro _ | (refine agrd_cases (fun h => ?_) (fun h => ?_) <;> (have h' := h; (try simp at h'); simp [h, h', ho]))))
      refine acallT_plain hft (by simp [ints, hkt, htk2]) ?_
      simp [ho, ho1, hw0, ints, hkt, htk2]
      (repeat' (first | contradiction | exact .of (by kernel_rfl) | refine And.intro ?_ ?_ | intro _ | (refine agrd_cases (fun h => ?_) (fun h => ?_) <;> (have h' := h; (try simp at h'); simp [h, h', ho, ho1, hw0]))))

theorem w_rng {ts : List Int} (hty : ∀ (j : Nat) (k : Int), ts[j]? = some k → 1 ≤ k ∧ k ≤ 3) {d : Nat} {k : Int} {e : Ex} (h : W ts d k e) : 1 ≤ k ∧ k ≤ 3 := by
  induction h with
  | col d j k hj => exact hty j k hj
  | con d v k hv hk h1 h2 => exact ⟨h1, h2⟩
  | cas _ _ _ _ _ _ _ _ _ ia _ => exact ia
  | coa _ _ _ _ _ _ ia _ => exact ia
  | _ => exact ⟨by decide, by decide⟩
theorem ty1 {ts : List Int} {a : Ex} {k : Int} (h : Cf Eo 67 [.d (.sl (ints ts)), a.a] [] (.tup [.d (.int .i64 k), .d (.int .i64 0)]) []) :
    ∀ (i : Nat) (hi : i < [a].length), Cf Eo 67 [.d (.sl (ints ts)), ([a][i]).a] [] (.tup [.d (.int .i64 ([k][i]'hi)), .d (.int .i64 0)]) [] := fun i hi => by
  match i, hi with
  | 0, _ => exact h
theorem ty2 {ts : List Int} {a b : Ex} {k l : Int} (h : Cf Eo 67 [.d (.sl (ints ts)), a.a] [] (.tup [.d (.int .i64 k), .d (.int .i64 0)]) []) (h2 : Cf Eo 67 [.d (.sl (ints ts)), b.a] [] (.tup [.d (.int .i64 l), .d (.int .i64 0)]) []) :
    ∀ (i : Nat) (hi : i < [a, b].length), Cf Eo 67 [.d (.sl (ints ts)), ([a, b][i]).a] [] (.tup [.d (.int .i64 ([k, l][i]'hi)), .d (.int .i64 0)]) [] := fun i hi => by
  match i, hi with
  | 0, _ => exact h
  | 1, _ => exact h2
theorem ty3 {ts : List Int} {a b c : Ex} {k l m : Int} (h : Cf Eo 67 [.d (.sl (ints ts)), a.a] [] (.tup [.d (.int .i64 k), .d (.int .i64 0)]) []) (h2 : Cf Eo 67 [.d (.sl (ints ts)), b.a] [] (.tup [.d (.int .i64 l), .d (.int .i64 0)]) [])
    (h3 : Cf Eo 67 [.d (.sl (ints ts)), c.a] [] (.tup [.d (.int .i64 m), .d (.int .i64 0)]) []) :
    ∀ (i : Nat) (hi : i < [a, b, c].length), Cf Eo 67 [.d (.sl (ints ts)), ([a, b, c][i]).a] [] (.tup [.d (.int .i64 ([k, l, m][i]'hi)), .d (.int .i64 0)]) [] := fun i hi => by
  match i, hi with
  | 0, _ => exact h
  | 1, _ => exact h2
  | 2, _ => exact h3
theorem ty0 {ts : List Int} : ∀ (i : Nat) (hi : i < ([] : List Ex).length), Cf Eo 67 [.d (.sl (ints ts)), (([] : List Ex)[i]).a] [] (.tup [.d (.int .i64 (([] : List Int)[i]'hi)), .d (.int .i64 0)]) [] := fun i hi => absurd hi (by simp)
theorem typ_node {ts : List Int} (hts : ts.length ≤ 1000) (o : Int) (h6 : 6 ≤ o) (ks : List Ex) (kts : List Int) (hk : ks.length ≤ 12) (hlen : kts.length = ks.length)
    (hrec : ∀ (i : Nat) (h : i < ks.length), Cf Eo 67 [.d (.sl (ints ts)), ks[i].a] [] (.tup [.d (.int .i64 (kts[i]'(by omega))), .d (.int .i64 0)]) [])
    (hc : cntd o ks.length = true) (hfit : fitOk (opOf o).2.2.1 kts = true) (hl1 : 1 ≤ kts.length) (f6 : (opOf o).2.2.1 = 6 → kts.length = 3) (r : Int) (hr : tyRes ts o 0 0 kts = r) :
    Cf Eo 67 [.d (.sl (ints ts)), (Ex.mk o 0 0 [] 0 ks).a] [] (.tup [.d (.int .i64 r), .d (.int .i64 0)]) [] := by
  rw [← hr]
  exact typ_gen ts hts o 0 0 0 [] ks kts hk hlen hrec hc (cl_node o ks (by omega) (by omega) (by omega) (by omega) (by omega)) (fun h => absurd h (by omega)) hfit (fun _ => hl1) f6 (fun _ _ _ => hl1)
theorem w_typ {ts : List Int} (hts : ts.length ≤ 1000) (hty : ∀ (j : Nat) (k : Int), ts[j]? = some k → 1 ≤ k ∧ k ≤ 3) {d : Nat} {k : Int} {e : Ex} (h : W ts d k e) : Cf Eo 67 [.d (.sl (ints ts)), e.a] [] (.tup [.d (.int .i64 k), .d (.int .i64 0)]) [] := by
  induction h with
  | col d j k hj =>
    obtain ⟨hlt, _⟩ := List.getElem?_eq_some_iff.1 hj
    have := typ_gen ts hts 5 0 0 j [] [] [] (by simp) rfl ty0 (by decide) (cl_col j) (fun _ => ⟨by omega, by omega, k, by simpa using hj, hty j k hj⟩) (by decide) (by decide) (by decide) (by decide)
    rwa [show tyRes ts 5 0 j [] = k from by simp [tyRes, hj]] at this
  | con d v k hv hk h1 h2 =>
    unfold constOf
    split
    · rename_i hv1
      have hk1 : k = 1 := by omega
      have hn := num_valid hv hv1
      have := typ_gen ts hts 2 0 v.n 0 [] [] [] (by simp) rfl ty0 (by decide) (cl_int v.n (by simp [V.valid]; omega)) (fun h => absurd h (by decide)) (by decide) (by decide) (by decide) (by decide)
      rwa [show tyRes ts 2 0 0 [] = k from by rw [hk1]; rfl] at this
    · split
      · rename_i hv1 hv2
        have hk2 : k = 2 := by omega
        have hb : V.valid ⟨2, v.n, []⟩ = true := by
          simp [V.valid, hv2] at hv ⊢
          exact hv.1
        have := typ_gen ts hts 3 0 v.n 0 [] [] [] (by simp) rfl ty0 (by decide) (cl_bool v.n hb) (fun h => absurd h (by decide)) (by decide) (by decide) (by decide) (by decide)
        rwa [show tyRes ts 3 0 0 [] = k from by rw [hk2]; rfl] at this
      · split
        · rename_i hv1 hv2 hv3
          have hk3 : k = 3 := by omega
          have hb : V.valid ⟨3, 0, v.t⟩ = true := by
            simp [V.valid, hv3] at hv ⊢
            exact hv.2
          have := typ_gen ts hts 4 0 0 0 v.t [] [] (by simp) rfl ty0 (by decide) (cl_text v.t hb) (fun h => absurd h (by decide)) (by decide) (by decide) (by decide) (by decide)
          rwa [show tyRes ts 4 0 0 [] = k from by rw [hk3]; rfl] at this
        · have := typ_gen ts hts 1 k 0 0 [] [] [] (by simp) rfl ty0 (by decide) (cl_null k ⟨h1, h2⟩) (fun h => absurd h (by decide)) (by decide) (by decide) (by decide) (by decide)
          rwa [show tyRes ts 1 k 0 [] = k from by simp [tyRes]] at this
  | cas d k c a b _ wa _ ic ia ib => exact typ_node hts 26 (by decide) [c, a, b] [2, k, k] (by simp) rfl (ty3 ic ia ib) (show cntd 26 3 = true from by decide) (by simp [fitOk, opOf, ops]) (by simp) (fun _ => rfl) _ (by simp [tyRes, opOf, ops])
  | coa d k a b wa _ ia ib => exact typ_node hts 27 (by decide) [a, b] [k, k] (by simp) rfl (ty2 ia ib) (show cntd 27 2 = true from by decide) (by simp [fitOk, opOf, ops]) (by simp) (fun h => absurd h (by decide)) _ (by simp [tyRes, opOf, ops])
  | ari d op a b h1 h2 wa _ ia ib =>
    have hop : op = 6 ∨ op = 7 ∨ op = 8 ∨ op = 9 ∨ op = 10 := by omega
    rcases hop with rfl | rfl | rfl | rfl | rfl
    · exact typ_node hts 6 (by decide) [a, b] [1, 1] (by simp) rfl (ty2 ia ib) (show cntd 6 2 = true from by decide) (by decide) (by simp) (by decide) _ (by simp [tyRes, opOf, ops])
    · exact typ_node hts 7 (by decide) [a, b] [1, 1] (by simp) rfl (ty2 ia ib) (show cntd 7 2 = true from by decide) (by decide) (by simp) (by decide) _ (by simp [tyRes, opOf, ops])
    · exact typ_node hts 8 (by decide) [a, b] [1, 1] (by simp) rfl (ty2 ia ib) (show cntd 8 2 = true from by decide) (by decide) (by simp) (by decide) _ (by simp [tyRes, opOf, ops])
    · exact typ_node hts 9 (by decide) [a, b] [1, 1] (by simp) rfl (ty2 ia ib) (show cntd 9 2 = true from by decide) (by decide) (by simp) (by decide) _ (by simp [tyRes, opOf, ops])
    · exact typ_node hts 10 (by decide) [a, b] [1, 1] (by simp) rfl (ty2 ia ib) (show cntd 10 2 = true from by decide) (by decide) (by simp) (by decide) _ (by simp [tyRes, opOf, ops])
  | neg d a _ ia => exact typ_node hts 11 (by decide) [a] [1] (by simp) rfl (ty1 ia) (show cntd 11 1 = true from by decide) (by decide) (by simp) (by decide) _ (by simp [tyRes, opOf, ops])
  | len d a _ ia => exact typ_node hts 13 (by decide) [a] [3] (by simp) rfl (ty1 ia) (show cntd 13 1 = true from by decide) (by decide) (by simp) (by decide) _ (by simp [tyRes, opOf, ops])
  | cat d a b _ _ ia ib => exact typ_node hts 12 (by decide) [a, b] [3, 3] (by simp) rfl (ty2 ia ib) (show cntd 12 2 = true from by decide) (by decide) (by simp) (by decide) _ (by simp [tyRes, opOf, ops])
  | log d op a b h1 h2 _ _ ia ib =>
    have hop : op = 22 ∨ op = 23 := by omega
    rcases hop with rfl | rfl
    · exact typ_node hts 22 (by decide) [a, b] [2, 2] (by simp) rfl (ty2 ia ib) (show cntd 22 2 = true from by decide) (by decide) (by simp) (by decide) _ (by simp [tyRes, opOf, ops])
    · exact typ_node hts 23 (by decide) [a, b] [2, 2] (by simp) rfl (ty2 ia ib) (show cntd 23 2 = true from by decide) (by decide) (by simp) (by decide) _ (by simp [tyRes, opOf, ops])
  | one d op a h1 h2 _ ia =>
    have hop : op = 24 ∨ op = 25 := by omega
    rcases hop with rfl | rfl
    · exact typ_node hts 24 (by decide) [a] [2] (by simp) rfl (ty1 ia) (show cntd 24 1 = true from by decide) (by decide) (by simp) (by decide) _ (by simp [tyRes, opOf, ops])
    · exact typ_node hts 25 (by decide) [a] [2] (by simp) rfl (ty1 ia) (show cntd 25 1 = true from by decide) (by decide) (by simp) (by decide) _ (by simp [tyRes, opOf, ops])
  | nul d x a _ ia => exact typ_node hts 21 (by decide) [a] [x] (by simp) rfl (ty1 ia) (show cntd 21 1 = true from by decide) (by simp [fitOk, opOf, ops]) (by simp) (fun h => absurd h (by decide)) _ (by simp [tyRes, opOf, ops])
  | inn d x a b ks _ _ _ hl ia ib ik =>
    have hcn : cntd 28 (ks.length + 2) = true := by
      have : (opOf 28).2.1 = 2 := by decide
      simp [cntd, isOp, this]
      omega
    exact typ_node hts 28 (by decide) (a :: b :: ks) (x :: x :: ks.map fun _ => x) (by simp; omega) (by simp) (fun i hi => by
      match i, hi with
      | 0, _ => exact ia
      | 1, _ => exact ib
      | i + 2, hi =>
        have hi' : i < ks.length := by simpa using hi
        have := ik ks[i] (List.getElem_mem hi')
        simpa using this) hcn (by simp [fitOk, opOf, ops]) (by simp) (fun h => absurd h (by decide)) _ (by simp [tyRes, opOf, ops])
  | cmp d op x a b h1 h2 _ _ ia ib =>
    have hop : op = 14 ∨ op = 15 ∨ op = 16 ∨ op = 17 ∨ op = 18 ∨ op = 19 ∨ op = 20 := by omega
    rcases hop with rfl | rfl | rfl | rfl | rfl | rfl | rfl
    · exact typ_node hts 14 (by decide) [a, b] [x, x] (by simp) rfl (ty2 ia ib) (show cntd 14 2 = true from by decide) (by simp [fitOk, opOf, ops]) (by simp) (fun h => absurd h (by decide)) _ (by simp [tyRes, opOf, ops])
    · exact typ_node hts 15 (by decide) [a, b] [x, x] (by simp) rfl (ty2 ia ib) (show cntd 15 2 = true from by decide) (by simp [fitOk, opOf, ops]) (by simp) (fun h => absurd h (by decide)) _ (by simp [tyRes, opOf, ops])
    · exact typ_node hts 16 (by decide) [a, b] [x, x] (by simp) rfl (ty2 ia ib) (show cntd 16 2 = true from by decide) (by simp [fitOk, opOf, ops]) (by simp) (fun h => absurd h (by decide)) _ (by simp [tyRes, opOf, ops])
    · exact typ_node hts 17 (by decide) [a, b] [x, x] (by simp) rfl (ty2 ia ib) (show cntd 17 2 = true from by decide) (by simp [fitOk, opOf, ops]) (by simp) (fun h => absurd h (by decide)) _ (by simp [tyRes, opOf, ops])
    · exact typ_node hts 18 (by decide) [a, b] [x, x] (by simp) rfl (ty2 ia ib) (show cntd 18 2 = true from by decide) (by simp [fitOk, opOf, ops]) (by simp) (fun h => absurd h (by decide)) _ (by simp [tyRes, opOf, ops])
    · exact typ_node hts 19 (by decide) [a, b] [x, x] (by simp) rfl (ty2 ia ib) (show cntd 19 2 = true from by decide) (by simp [fitOk, opOf, ops]) (by simp) (fun h => absurd h (by decide)) _ (by simp [tyRes, opOf, ops])
    · exact typ_node hts 20 (by decide) [a, b] [x, x] (by simp) rfl (ty2 ia ib) (show cntd 20 2 = true from by decide) (by simp [fitOk, opOf, ops]) (by simp) (fun h => absurd h (by decide)) _ (by simp [tyRes, opOf, ops])
end Go.Proofs.Tryd
