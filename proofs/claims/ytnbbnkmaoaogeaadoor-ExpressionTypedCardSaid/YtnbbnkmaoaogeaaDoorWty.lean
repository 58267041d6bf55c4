/- Typed expressions: what they are worth. -/
import Derived.Test.YtnbbnkmaoaogeaaDoorEva
import Derived.Test.YtnbbnkmaoaogeaaDoorMae
set_option linter.all false
namespace Go.Proofs.Tryd
open Go.Ab

inductive W (ts : List Int) : Nat → Int → Ex → Prop where
  | col (d : Nat) (j : Nat) (k : Int) : ts[j]? = some k → W ts d k (.mk 5 0 0 [] j [])
  | con (d : Nat) (v : V) (k : Int) : v.valid = true → (v.k = 0 ∨ v.k = k) → 1 ≤ k → k ≤ 3 → W ts d k (constOf v k)
  | cas (d : Nat) (k : Int) (c a b : Ex) : W ts d 2 c → W ts d k a → W ts d k b → W ts (d + 1) k (.mk 26 0 0 [] 0 [c, a, b])
  | coa (d : Nat) (k : Int) (a b : Ex) : W ts d k a → W ts d k b → W ts (d + 1) k (.mk 27 0 0 [] 0 [a, b])
  | ari (d : Nat) (op : Int) (a b : Ex) : 6 ≤ op → op ≤ 10 → W ts d 1 a → W ts d 1 b → W ts (d + 1) 1 (.mk op 0 0 [] 0 [a, b])
  | neg (d : Nat) (a : Ex) : W ts d 1 a → W ts (d + 1) 1 (.mk 11 0 0 [] 0 [a])
  | len (d : Nat) (a : Ex) : W ts d 3 a → W ts (d + 1) 1 (.mk 13 0 0 [] 0 [a])
  | cat (d : Nat) (a b : Ex) : W ts d 3 a → W ts d 3 b → W ts (d + 1) 3 (.mk 12 0 0 [] 0 [a, b])
  | log (d : Nat) (op : Int) (a b : Ex) : 22 ≤ op → op ≤ 23 → W ts d 2 a → W ts d 2 b → W ts (d + 1) 2 (.mk op 0 0 [] 0 [a, b])
  | one (d : Nat) (op : Int) (a : Ex) : 24 ≤ op → op ≤ 25 → W ts d 2 a → W ts (d + 1) 2 (.mk op 0 0 [] 0 [a])
  | nul (d : Nat) (x : Int) (a : Ex) : W ts d x a → W ts (d + 1) 2 (.mk 21 0 0 [] 0 [a])
  | inn (d : Nat) (x : Int) (a b : Ex) (ks : List Ex) : W ts d x a → W ts d x b → (∀ e ∈ ks, W ts d x e) → ks.length ≤ 4 → W ts (d + 1) 2 (.mk 28 0 0 [] 0 (a :: b :: ks))
  | cmp (d : Nat) (op x : Int) (a b : Ex) : 14 ≤ op → op ≤ 20 → W ts d x a → W ts d x b → W ts (d + 1) 2 (.mk op 0 0 [] 0 [a, b])

/-- What a value of a type is. -/
def V.of (v : V) (k : Int) : Prop := v.valid = true ∧ (v.k = 0 ∨ v.k = k)
def rowOk (ts : List Int) (row : List V) : Prop := ∀ (j : Nat) (k : Int), ts[j]? = some k → ∃ v, row[j]? = some v ∧ v.of k
theorem nul_of (k : Int) : nulV.of k := ⟨nul_valid, .inl rfl⟩
theorem tf_of (b : Bool) : (ofV b).of 2 := by cases b <;> exact ⟨by decide, .inr rfl⟩
theorem t_of : V.of ⟨2, 1, []⟩ 2 := ⟨by decide, .inr rfl⟩
theorem f_of : V.of ⟨2, 0, []⟩ 2 := ⟨by decide, .inr rfl⟩
theorem eq_of (a b : V) : (eqV a b).of 2 := by unfold eqV; split; exact nul_of _; exact tf_of _
theorem less_of (a b : V) : (lessV a b).of 2 := by unfold lessV; split; exact nul_of _; exact tf_of _
theorem not_of (a : V) : (notV a).of 2 := by unfold notV; split; exact t_of; split; exact f_of; exact nul_of _
theorem and_of (a b : V) : (andV a b).of 2 := by unfold andV; split; exact f_of; split; exact nul_of _; exact t_of
theorem or_of (a b : V) : (orV a b).of 2 := by unfold orV; split; exact t_of; split; exact nul_of _; exact f_of
theorem fit_of (v : V) : (fitV v).of v.k := by
  unfold fitV
  split
  · rename_i h; exact ⟨h, .inr rfl⟩
  · exact nul_of _
theorem ar_of {a b : V} {op : Int} (h : a.k ≠ 3) : (arV op a b).of 1 := by
  unfold arV
  repeat' split
  all_goals first | exact nul_of _ | exact fit_of ⟨1, _, _⟩ | (rename_i h1; exact absurd h1.1 h)
theorem cat_of {a b : V} {op : Int} (h : a.k ≠ 1) : (arV op a b).of 3 := by
  unfold arV
  repeat' split
  all_goals first | exact nul_of _ | exact fit_of ⟨3, _, _⟩ | (rename_i h1 _ _; exact absurd h1 h) | (rename_i h1 _ _ _; exact absurd h1 h) | (rename_i h1 _; exact absurd h1 h) | (rename_i h1; exact absurd h1 h)
theorem in_of (x : V) (ys : List V) : (inV x ys).of 2 := by
  unfold inV
  have : ∀ (ys : List V) (o : V), o.of 2 → (ys.foldl (fun o y => orV o (eqV x y)) o).of 2 := by
    intro ys
    induction ys with
    | nil => intro o h; exact h
    | cons y ys ih => intro o _; exact ih _ (or_of _ _)
  exact this ys _ f_of
theorem cntd1 {op : Int} {n : Nat} (h : (n : Int) = (opOf op).2.1) (h1 : 1 ≤ op) (h2 : op ≤ 28) : cntd op n = true := by
  simp [cntd, isOp, h1, h2, h]
theorem valid_con (v : V) (k : Int) (hv : v.valid = true) (hk : v.k = 0 ∨ v.k = k) (row : List V) : (evalV (constOf v k) row).of k ∧ ∀ q, q ≤ 60 → (constOf v k).few q = true := by
  unfold constOf
  have h0 : v.k = 0 ∨ v.k = 1 ∨ v.k = 2 ∨ v.k = 3 := by
    unfold V.valid at hv
    by_cases a : v.k = 0
    · exact .inl a
    by_cases b : v.k = 1
    · exact .inr (.inl b)
    by_cases c : v.k = 2
    · exact .inr (.inr (.inl c))
    by_cases d : v.k = 3
    · exact .inr (.inr (.inr d))
    · simp [a, b, c, d] at hv
  have c1 : cntd 1 0 = true := by decide
  have c2 : cntd 2 0 = true := by decide
  have c3 : cntd 3 0 = true := by decide
  have c4 : cntd 4 0 = true := by decide
  rcases h0 with h | h | h | h <;> simp only [h]
  · refine ⟨?_, fun q hq => by simp [Ex.few, fewAll]; omega⟩
    simp [evalV, evalAll, c1, applyV]
    exact nul_of _
  · refine ⟨?_, fun q hq => by simp [Ex.few, fewAll]; omega⟩
    simp [evalV, c2]
    refine ⟨?_, .inr (by simp; omega)⟩
    simp [V.valid, h] at hv ⊢
    exact ⟨hv.1, hv.2.1⟩
  · refine ⟨?_, fun q hq => by simp [Ex.few, fewAll]; omega⟩
    simp [evalV, c3]
    refine ⟨?_, .inr (by simp; omega)⟩
    simp [V.valid, h] at hv ⊢
    exact hv.1
  · have hl := (text_valid hv h).2
    refine ⟨?_, fun q hq => by simp [Ex.few, fewAll]; omega⟩
    simp [evalV, c4]
    refine ⟨?_, .inr (by simp; omega)⟩
    simp [V.valid, h] at hv ⊢
    exact hv.2

theorem w_val {ts : List Int} {row : List V} (hr : rowOk ts row) {d : Nat} {k : Int} {e : Ex} (h : W ts d k e) : (evalV e row).of k := by
  induction h with
  | col d j k hj =>
    obtain ⟨v, hv, ho⟩ := hr j k hj
    obtain ⟨hlt, hrv⟩ := List.getElem?_eq_some_iff.1 hv
    have c5 : cntd 5 0 = true := by decide
    have : evalV (.mk 5 0 0 [] j []) row = v := by simp [evalV, c5, hlt, hrv]
    rw [this]; exact ho
  | con d v k hv hk _ _ => exact (valid_con v k hv hk row).1
  | cas d k c a b _ _ _ ic ia ib =>
    have c26 : cntd 26 3 = true := by decide
    have : evalV (.mk 26 0 0 [] 0 [c, a, b]) row = if (evalV c row).tr = 1 then evalV a row else evalV b row := by simp [evalV, c26, evalAll, at0, at1, at2]
    rw [this]
    split
    · exact ia
    · exact ib
  | coa d k a b _ _ ia ib =>
    have cc : cntd 27 2 = true := by decide
    have : evalV (.mk 27 0 0 [] 0 [a, b]) row = if (evalV a row).k = 0 then evalV b row else evalV a row := by simp [evalV, cc, evalAll, applyV, at0, at1]
    rw [this]
    split
    · exact ib
    · exact ia
  | ari d op a b h1 h2 _ _ ia ib =>
    have hop : op = 6 ∨ op = 7 ∨ op = 8 ∨ op = 9 ∨ op = 10 := by omega
    have cc : cntd op 2 = true := by rcases hop with rfl | rfl | rfl | rfl | rfl <;> decide
    have : evalV (.mk op 0 0 [] 0 [a, b]) row = arV op (evalV a row) (evalV b row) := by
      rcases hop with rfl | rfl | rfl | rfl | rfl <;> simp [evalV, cc, evalAll, applyV, at0, at1]
    rw [this]
    exact ar_of (by have := ia.2; omega)
  | neg d a _ ia =>
    have cc : cntd 11 1 = true := by decide
    have : evalV (.mk 11 0 0 [] 0 [a]) row = arV 7 ⟨1, 0, []⟩ (evalV a row) := by simp [evalV, cc, evalAll, applyV, at0]
    rw [this]
    exact ar_of (by simp)
  | len d a _ ia =>
    have cc : cntd 13 1 = true := by decide
    have : evalV (.mk 13 0 0 [] 0 [a]) row = if (evalV a row).k = 3 then ⟨1, (evalV a row).t.length, []⟩ else nulV := by simp [evalV, cc, evalAll, applyV, at0]
    rw [this]
    split
    · rename_i h3
      have := (text_valid ia.1 h3).2
      exact ⟨by simp [V.valid]; omega, .inr rfl⟩
    · exact nul_of _
  | cat d a b _ _ ia ib =>
    have cc : cntd 12 2 = true := by decide
    have : evalV (.mk 12 0 0 [] 0 [a, b]) row = arV 12 (evalV a row) (evalV b row) := by simp [evalV, cc, evalAll, applyV, at0, at1]
    rw [this]
    exact cat_of (by have := ia.2; omega)
  | log d op a b h1 h2 _ _ ia ib =>
    have hop : op = 22 ∨ op = 23 := by omega
    rcases hop with rfl | rfl
    · have cc : cntd 22 2 = true := by decide
      have : evalV (.mk 22 0 0 [] 0 [a, b]) row = andV (evalV a row) (evalV b row) := by simp [evalV, cc, evalAll, applyV, at0, at1]
      rw [this]; exact and_of _ _
    · have cc : cntd 23 2 = true := by decide
      have : evalV (.mk 23 0 0 [] 0 [a, b]) row = orV (evalV a row) (evalV b row) := by simp [evalV, cc, evalAll, applyV, at0, at1]
      rw [this]; exact or_of _ _
  | one d op a h1 h2 _ ia =>
    have hop : op = 24 ∨ op = 25 := by omega
    rcases hop with rfl | rfl
    · have cc : cntd 24 1 = true := by decide
      have : evalV (.mk 24 0 0 [] 0 [a]) row = notV (evalV a row) := by simp [evalV, cc, evalAll, applyV, at0]
      rw [this]; exact not_of _
    · have cc : cntd 25 1 = true := by decide
      have : evalV (.mk 25 0 0 [] 0 [a]) row = ofV ((evalV a row).tr == 1) := by simp [evalV, cc, evalAll, applyV, at0]
      rw [this]; exact tf_of _
  | nul d x a _ ia =>
    have cc : cntd 21 1 = true := by decide
    have : evalV (.mk 21 0 0 [] 0 [a]) row = ofV ((evalV a row).k == 0) := by simp [evalV, cc, evalAll, applyV, at0]
    rw [this]; exact tf_of _
  | inn d x a b ks _ _ _ hl ia ib ik =>
    have cc : cntd 28 (ks.length + 2) = true := by
      have : (opOf 28).2.1 = 2 := by decide
      simp [cntd, isOp, this]
      omega
    have : evalV (.mk 28 0 0 [] 0 (a :: b :: ks)) row = inV (evalV a row) (evalAll (b :: ks) row) := by simp [evalV, cc, evalAll, applyV, at0]
    rw [this]; exact in_of _ _
  | cmp d op x a b h1 h2 _ _ ia ib =>
    have hop : op = 14 ∨ op = 15 ∨ op = 16 ∨ op = 17 ∨ op = 18 ∨ op = 19 ∨ op = 20 := by omega
    have cc : cntd op 2 = true := by rcases hop with rfl | rfl | rfl | rfl | rfl | rfl | rfl <;> decide
    rcases hop with rfl | rfl | rfl | rfl | rfl | rfl | rfl <;> simp [evalV, cc, evalAll, applyV, at0, at1]
    · exact eq_of _ _
    · exact not_of _
    · exact less_of _ _
    · exact not_of _
    · exact less_of _ _
    · exact not_of _
    · exact tf_of _

theorem w_few {ts : List Int} {d : Nat} {k : Int} {e : Ex} (h : W ts d k e) : ∀ q, q + d ≤ 60 → e.few q = true := by
  induction h with
  | col d j k hj => intro q hq; simp [Ex.few, fewAll]; omega
  | con d v k hv hk _ _ => intro q hq; exact (valid_con v k hv hk []).2 q (by omega)
  | cas d k c a b _ _ _ ic ia ib => intro q hq; simp [Ex.few, fewAll, ic (q + 1) (by omega), ia (q + 1) (by omega), ib (q + 1) (by omega)]; omega
  | coa d k a b _ _ ia ib => intro q hq; simp [Ex.few, fewAll, ia (q + 1) (by omega), ib (q + 1) (by omega)]; omega
  | ari d op a b _ _ _ _ ia ib => intro q hq; simp [Ex.few, fewAll, ia (q + 1) (by omega), ib (q + 1) (by omega)]; omega
  | neg d a _ ia => intro q hq; simp [Ex.few, fewAll, ia (q + 1) (by omega)]; omega
  | len d a _ ia => intro q hq; simp [Ex.few, fewAll, ia (q + 1) (by omega)]; omega
  | cat d a b _ _ ia ib => intro q hq; simp [Ex.few, fewAll, ia (q + 1) (by omega), ib (q + 1) (by omega)]; omega
  | log d op a b _ _ _ _ ia ib => intro q hq; simp [Ex.few, fewAll, ia (q + 1) (by omega), ib (q + 1) (by omega)]; omega
  | one d op a _ _ _ ia => intro q hq; simp [Ex.few, fewAll, ia (q + 1) (by omega)]; omega
  | nul d x a _ ia => intro q hq; simp [Ex.few, fewAll, ia (q + 1) (by omega)]; omega
  | inn d x a b ks _ _ _ hl ia ib ik =>
    intro q hq
    have : fewAll ks (q + 1) = true := by
      rw [fewAll_all, List.all_eq_true]
      intro e he
      exact ik e he (q + 1) (by omega)
    simp [Ex.few, fewAll, ia (q + 1) (by omega), ib (q + 1) (by omega), this]; omega
  | cmp d op x a b _ _ _ _ ia ib => intro q hq; simp [Ex.few, fewAll, ia (q + 1) (by omega), ib (q + 1) (by omega)]; omega

/-! What is made is typed. -/
theorem values_of (k : Int) : ∀ v ∈ valuesOf k, v.valid = true ∧ (v.k = 0 ∨ v.k = k) := by
  unfold valuesOf
  split
  · rename_i h; subst h; decide
  · split
    · rename_i h; subst h; decide
    · split
      · rename_i h; subst h; decide
      · intro v hv
        have : v = nulV := by simpa using hv
        subst this; exact nul_of _
theorem valV_of (L : List Int) (i : Nat) (k : Int) : (valV L i k).of k := by
  unfold valV
  cases h : (valuesOf k)[(nextV L i (valuesOf k).length).toNat]? with
  | none => exact nul_of _
  | some v => exact values_of k v (List.mem_of_getElem? h)
theorem rowG_ok (L : List Int) : ∀ (ts : List Int) (i : Nat), rowOk ts (rowG L i ts)
  | [], i => fun j k h => by simp at h
  | t :: ts, i => fun j k h => by
    cases j with
    | zero =>
      simp at h; subst h
      exact ⟨_, rfl, valV_of L i t⟩
    | succ j =>
      simp at h
      obtain ⟨v, hv, ho⟩ := rowG_ok L ts (i + 1) j k h
      exact ⟨v, by simpa [rowG] using hv, ho⟩
theorem idxG_ok (k : Int) : ∀ (ts : List Int) (i : Nat) (x : Int), x ∈ idxG k i ts → ∃ j : Nat, x = (i + j : Nat) ∧ ts[j]? = some k
  | [], i, x, h => by simp [idxG] at h
  | t :: ts, i, x, h => by
    simp only [idxG] at h
    split at h
    · rename_i ht
      subst ht
      rcases List.mem_cons.1 h with rfl | h
      · exact ⟨0, rfl, rfl⟩
      · obtain ⟨j, hj, hk⟩ := idxG_ok t ts (i + 1) x h
        exact ⟨j + 1, by rw [hj]; congr 1; omega, by simpa using hk⟩
    · obtain ⟨j, hj, hk⟩ := idxG_ok k ts (i + 1) x h
      exact ⟨j + 1, by rw [hj]; congr 1; omega, by simpa using hk⟩
theorem pick_w (L ts : List Int) (d : Nat) (k : Int) (i : Nat) (hk : 1 ≤ k ∧ k ≤ 3) : W ts d k (pickG L ts k i).1 := by
  unfold pickG
  simp only
  split
  · rename_i hlt
    have hn := nextV_in L i (n := ((idxG k 0 ts).length : Int) + 2) (by omega)
    have hlt' : (nextV L i ((idxG k 0 ts).length + 2)).toNat < (idxG k 0 ts).length := by omega
    have hg : (idxG k 0 ts)[(nextV L i ((idxG k 0 ts).length + 2)).toNat]? = some _ := List.getElem?_eq_getElem hlt'
    rw [hg, Option.getD_some]
    obtain ⟨j, hj, hk⟩ := idxG_ok k ts 0 _ (List.getElem_mem hlt')
    rw [hj, Nat.zero_add]
    exact .col d j k hk
  · exact .con d _ k (valV_of L _ k).1 (valV_of L _ k).2 hk.1 hk.2
theorem more_w (ts : List Int) (g : Int → Nat → Ex × Nat) (d : Nat) (x : Int) (hg : ∀ i, W ts d x (g x i).1) : ∀ (n i : Nat), ∀ e ∈ (moreG g x n i).1, W ts d x e
  | 0, i => fun e he => by simp [moreG] at he
  | n + 1, i => fun e he => by
    simp only [moreG, List.mem_append, List.mem_singleton] at he
    rcases he with he | rfl
    · exact more_w ts g d x hg n i e he
    · exact hg _
theorem node_w (L ts : List Int) (g : Int → Nat → Ex × Nat) (d : Nat) (hg : ∀ k i, 1 ≤ k → k ≤ 3 → W ts d k (g k i).1) (k : Int) (i : Nat) (hk : 1 ≤ k ∧ k ≤ 3) : W ts (d + 1) k (nodeG L g k i).1 := by
  have two : ∀ (op x : Int) (j : Nat) (k : Int), (∀ a b, W ts d x a → W ts d x b → W ts (d + 1) k (.mk op 0 0 [] 0 [a, b])) → 1 ≤ x → x ≤ 3 → W ts (d + 1) k (twoG g op x j).1 := fun op x j k h h1 h2 => h _ _ (hg x _ h1 h2) (hg x _ h1 h2)
  unfold nodeG
  split
  · exact .cas d k _ _ _ (hg 2 _ (by omega) (by omega)) (hg k _ hk.1 hk.2) (hg k _ hk.1 hk.2)
  split
  · exact two 27 k _ k (fun a b => .coa d k a b) hk.1 hk.2
  split
  · rename_i h
    obtain ⟨rfl, _⟩ := h
    have hn := nextV_in L (i + 1) (n := 5) (by omega)
    exact two _ 1 _ 1 (fun a b => .ari d _ a b (by omega) (by omega)) (by omega) (by omega)
  split
  · rename_i h
    subst h
    split
    · exact .neg d _ (hg 1 _ (by omega) (by omega))
    · exact .len d _ (hg 3 _ (by omega) (by omega))
  split
  · rename_i h
    subst h
    exact two 12 3 _ 3 (fun a b => .cat d a b) (by omega) (by omega)
  have hk2 : k = 2 := by omega
  subst hk2
  have hx := nextV_in L (i + 1) (n := 3) (by omega)
  unfold boolG
  split
  · have hn := nextV_in L (i + 1 + 2) (n := 2) (by omega)
    exact two _ 2 _ 2 (fun a b => .log d _ a b (by omega) (by omega)) (by omega) (by omega)
  split
  · have hn := nextV_in L (i + 1 + 2) (n := 2) (by omega)
    exact .one d _ _ (by omega) (by omega) (hg 2 _ (by omega) (by omega))
  split
  · exact .nul d _ _ (hg _ _ (by omega) (by omega))
  split
  · refine .inn d _ _ _ _ (hg _ _ (by omega) (by omega)) (hg _ _ (by omega) (by omega)) (more_w ts g d _ (fun i => hg _ i (by omega) (by omega)) _ _) ?_
    change (moreG g _ _ _).1.length ≤ 4
    rw [more_len]
    have hn := nextV_in L (g (1 + nextV L (i + 1) 3) (g (1 + nextV L (i + 1) 3) (i + 1 + 2)).2).2 (n := 3) (by omega)
    omega
  · have hn := nextV_in L (i + 1 + 2) (n := 7) (by omega)
    exact two _ _ _ 2 (fun a b => .cmp d _ _ a b (by omega) (by omega)) (by omega) (by omega)
theorem expr_w (L ts : List Int) : ∀ (d : Nat) (k : Int) (i : Nat), 1 ≤ k → k ≤ 3 → W ts d k (exprG L ts d k i).1
  | 0, k, i, h1, h2 => pick_w L ts 0 k i ⟨h1, h2⟩
  | 1, k, i, h1, h2 => pick_w L ts 1 k i ⟨h1, h2⟩
  | d + 2, k, i, h1, h2 => by
    rw [exprG, if_neg (by omega)]
    split
    · exact pick_w L ts _ k _ ⟨h1, h2⟩
    · exact node_w L ts _ (d + 1) (fun k i a b => expr_w L ts (d + 1) k i a b) k _ ⟨h1, h2⟩
end Go.Proofs.Tryd
