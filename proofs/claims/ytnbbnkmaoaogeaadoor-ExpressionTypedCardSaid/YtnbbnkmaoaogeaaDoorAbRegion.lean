/- A region, in the order of the text or in whatever order its edges allow. -/
import Derived.Test.YtnbbnkmaoaogeaaDoorAbOrder
set_option linter.all false
namespace Go.Ab

def Path (E : Env) (ops : Array Oper) (inf : Nat → List Nat × List Nat) : List Nat → St → St → Prop
  | [], s, s' => s = s'
  | i :: l, s, s' => ∃ o s1, ops[i]? = some o ∧ Step E ops o s s1 (inf i).1 (inf i).2 ∧ Path E ops inf l s1 s'

/-- May i and j change places? -/
def Free (ops : Array Oper) (inf : Nat → List Nat × List Nat) (i j : Nat) : Prop :=
  ∀ x y, ops[i]? = some x → ops[j]? = some y → x.apart ops y = true ∧ disj (inf i).2 (inf j).1 ∧ disj (inf j).2 (inf i).1

theorem Path.front {E : Env} {ops : Array Oper} {inf : Nat → List Nat × List Nat} {k : Nat} {l2 : List Nat} : ∀ (l1 : List Nat) (s s' : St), (∀ i ∈ l1, Free ops inf i k) → Path E ops inf (l1 ++ k :: l2) s s' → Path E ops inf (k :: (l1 ++ l2)) s s'
  | [], s, s', _, h => h
  | i :: l1, s, s', hf, h => by
    obtain ⟨o, s1, ho, hs, hp⟩ := h
    obtain ⟨o', s2, ho', hs', hp'⟩ := Path.front l1 s1 s' (fun j hj => hf j (List.mem_cons_of_mem _ hj)) hp
    obtain ⟨f1, f2, f3⟩ := hf i List.mem_cons_self o o' ho ho'
    obtain ⟨s1', g1, g2⟩ := Step.swap f1 f2 f3 hs hs'
    exact ⟨o', s1', ho', g1, o, s2, ho, g2, hp'⟩

/-- What must come before: for each operation, those that its edges reach. -/
def maskOf (acc : List Nat) (o : Oper) : Nat := o.after.toList.foldl (fun s e => if Region.binds .any e then s ||| 2 ^ e.on ||| acc.getD e.on 0 else s) 0
def masksFrom : List Oper → List Nat → List Nat
  | [], acc => acc
  | o :: os, acc => masksFrom os (acc ++ [maskOf acc o])
def masks (ops : List Oper) : List Nat := masksFrom ops []

theorem masksFrom_get : ∀ (ops : List Oper) (acc : List Nat) (i : Nat), i < acc.length → (masksFrom ops acc)[i]? = acc[i]?
  | [], _, _, _ => rfl
  | o :: os, acc, i, h => by
    rw [masksFrom, masksFrom_get os _ i (by simp; omega), List.getElem?_append_left h]
theorem masksFrom_at : ∀ (ops : List Oper) (acc : List Nat) (i : Nat) (o : Oper), ops[i]? = some o → ∃ acc', (∀ k, k < acc.length + i → acc'[k]? = (masksFrom ops acc)[k]?) ∧ acc'.length = acc.length + i ∧ (masksFrom ops acc)[acc.length + i]? = some (maskOf acc' o)
  | [], _, _, _, h => by simp at h
  | o' :: os, acc, 0, o, h => by
    simp at h
    subst h
    refine ⟨acc, fun k hk => ?_, rfl, ?_⟩
    · rw [masksFrom, masksFrom_get os _ k (by simp; omega), List.getElem?_append_left (by omega)]
    · rw [masksFrom, masksFrom_get os _ _ (by simp)]; simp
  | o' :: os, acc, i + 1, o, h => by
    obtain ⟨acc', h1, h2, h3⟩ := masksFrom_at os (acc ++ [maskOf acc o']) i o (by simpa using h)
    simp only [List.length_append, List.length_cons, List.length_nil, Nat.zero_add] at h1 h2 h3
    exact ⟨acc', fun k hk => h1 k (by omega), by omega, by rw [masksFrom, show acc.length + (i + 1) = acc.length + 1 + i from by omega]; exact h3⟩

theorem foldl_mask (acc : List Nat) (k : Nat) : ∀ (es : List Edge) (s : Nat), (es.foldl (fun s e => if Region.binds .any e then s ||| 2 ^ e.on ||| acc.getD e.on 0 else s) s).testBit k = true →
    s.testBit k = true ∨ ∃ e ∈ es, Region.binds .any e = true ∧ (e.on = k ∨ (acc.getD e.on 0).testBit k = true)
  | [], s, h => .inl h
  | e :: es, s, h => by
    rw [List.foldl_cons] at h
    rcases foldl_mask acc k es _ h with h | ⟨e', he', h⟩
    · split at h
      · rename_i hb
        simp only [Nat.testBit_or, Bool.or_eq_true] at h
        rcases h with (h | h) | h
        · exact .inl h
        · rw [Nat.testBit_two_pow] at h
          exact .inr ⟨e, List.mem_cons_self, hb, .inl (by simpa using h)⟩
        · exact .inr ⟨e, List.mem_cons_self, hb, .inr h⟩
      · exact .inl h
    · exact .inr ⟨e', List.mem_cons_of_mem _ he', h⟩

/-- The text's order serves the edges. -/
def edgesOk (ops : List Oper) : Bool := ops.zipIdx.all fun (o, i) => o.after.toList.all fun e => !Region.binds .any e || decide (e.on < i)

theorem edges_lt {ops : List Oper} (h : edgesOk ops = true) {i : Nat} {o : Oper} (hi : ops[i]? = some o) {e : Edge} (he : e ∈ o.after) (hb : Region.binds .any e = true) : e.on < i := by
  unfold edgesOk at h
  rw [List.all_eq_true] at h
  have := h (o, i) (List.mem_iff_getElem?.2 ⟨i, by simp [List.getElem?_zipIdx, hi]⟩)
  rw [List.all_eq_true] at this
  have := this e (by simpa using he)
  simpa [hb] using this

theorem mask_reach {ops : List Oper} (hed : edgesOk ops = true) {i k : Nat} {o : Oper} (hi : ops[i]? = some o) (h : ((masks ops).getD i 0).testBit k = true) :
    ∃ e ∈ o.after, Region.binds .any e = true ∧ (e.on = k ∨ ((masks ops).getD e.on 0).testBit k = true) := by
  obtain ⟨acc', h1, h2, h3⟩ := masksFrom_at ops [] i o hi
  simp only [List.length_nil, Nat.zero_add] at h1 h2 h3
  rw [List.getD_eq_getElem?_getD, masks, h3, Option.getD_some] at h
  rcases foldl_mask acc' k _ 0 h with h | ⟨e, he, hb, h⟩
  · simp at h
  · refine ⟨e, by simpa using he, hb, h.imp id fun h => ?_⟩
    rw [List.getD_eq_getElem?_getD, masks, ← h1 e.on (edges_lt hed hi (by simpa using he) hb), ← List.getD_eq_getElem?_getD]
    exact h

/-- Any order that the edges allow comes to the same end. -/
theorem any_sound {E : Env} {C : Ctx} (hP : C.P = E.P) (hG : C.G = E.G) {N nb : Nat} (hN : N ≤ firstName) {ops : Array Oper} (hd : ∀ (i : Nat) (o : Oper), ops[i]? = some o → ∀ d, o.dst = some d → d < N) (hed : edgesOk ops.toList = true)
    {inf : Nat → List Nat × List Nat} (hfree : ∀ i j, i < j → j < ops.size → ((masks ops.toList).getD j 0).testBit i = true ∨ Free ops inf i j) {Q : Exit → Act → World → Prop} {s' : St} (hQ : ∀ a w, Inv C N nb s' a w → Q .normal a w) :
    ∀ (fuel : Nat) (l : List Nat) (listed : Array Bool) (s : St) (a : Act) (w : World), l.Pairwise (· < ·) → (∀ i, i ∈ l ↔ i < ops.size ∧ listed.getD i true = false) → listed.size = ops.size →
      (∀ i k, i < ops.size → listed.getD i true = true → ((masks ops.toList).getD i 0).testBit k = true → listed.getD k false = true) → l.length ≤ fuel →
      Path E ops inf l s s' → Inv C N nb s a w → wpAny E.P .any ops Q fuel listed a w := by
  intro fuel
  induction fuel with
  | zero =>
    intro l listed s a w _ hl hsz _ hlen hp inv
    have : l = [] := List.length_eq_zero_iff.1 (by omega)
    subst this
    refine ⟨?_, by simp only [Path] at hp; subst hp; exact hQ a w inv⟩
    apply List.eq_nil_iff_forall_not_mem.2
    intro i hi
    obtain ⟨h0, o, ho, _⟩ := mem_ready.1 hi
    have := (hl i).2 ⟨(Array.getElem?_eq_some_iff.1 ho).1, h0⟩
    cases this
  | succ fuel ih =>
    intro l listed s a w hpw hl hsz hdc hlen hp inv
    have hget : ∀ i, i < ops.size → listed.getD i true = listed.getD i false := fun i hi => by simp [hsz, hi]
    refine ⟨fun hr => ?_, fun i hi => ?_⟩
    · cases l with
      | nil => simp only [Path] at hp; subst hp; exact hQ a w inv
      | cons i l =>
        exfalso
        have hi := (hl i).1 List.mem_cons_self
        have : i ∈ Region.ready .any ops listed := mem_ready.2 ⟨hi.2, ops[i], by simp [hi.1], fun e he hb => by
          have hlt := edges_lt hed (i := i) (o := ops[i]) (by simp [hi.1]) he hb
          have hes : e.on < ops.size := by omega
          rw [← hget _ hes]
          cases hc : listed.getD e.on true with
          | true => rfl
          | false =>
            have hmem := (hl e.on).2 ⟨hes, hc⟩
            rcases List.mem_cons.1 hmem with rfl | hmem
            · omega
            · have := (List.pairwise_cons.1 hpw).1 _ hmem; omega⟩
        rw [hr] at this
        cases this
    · obtain ⟨h0, o, ho, hall⟩ := mem_ready.1 hi
      have hlt : i < ops.size := (Array.getElem?_eq_some_iff.1 ho).1
      have hmem := (hl i).2 ⟨hlt, h0⟩
      obtain ⟨l1, l2, rfl⟩ := List.append_of_mem hmem
      -- all that it waits for is done
      have hdone : ∀ k, ((masks ops.toList).getD i 0).testBit k = true → listed.getD k false = true := fun k hk => by
        obtain ⟨e, he, hb, h⟩ := mask_reach hed (by simpa using ho) hk
        rcases h with rfl | h
        · exact hall e he hb
        · have hes : e.on < ops.size := by have := edges_lt hed (by simpa using ho) he hb; omega
          exact hdc e.on k hes (by rw [hget _ hes]; exact hall e he hb) h
      have hpw' := List.pairwise_append.1 hpw
      have hfr : ∀ j ∈ l1, Free ops inf j i := fun j hj => by
        have hji : j < i := hpw'.2.2 j hj i List.mem_cons_self
        rcases hfree j i hji hlt with h | h
        · have hj' := (hl j).1 (List.mem_append_left _ hj)
          have := hdone j h
          rw [← hget j hj'.1, hj'.2] at this; cases this
        · exact h
      obtain ⟨o', s1, ho', hs, hp'⟩ := Path.front l1 s s' hfr hp
      rw [ho] at ho'; cases ho'
      refine step_sound hP hG hN ho (hd i o ho) inv hs fun a' w' inv' => ?_
      have hni : ∀ j ∈ l1 ++ l2, j ≠ i := fun j hj e => by
        subst e
        rcases List.mem_append.1 hj with h | h
        · exact absurd (hpw'.2.2 j h j List.mem_cons_self) (by omega)
        · exact absurd ((List.pairwise_cons.1 hpw'.2.1).1 j h) (by omega)
      refine ih (l1 ++ l2) (listed.setIfInBounds i true) s1 a' w' ?_ (fun j => ?_) (by simpa using hsz) (fun j k hj hjl hk => ?_) (by simp at hlen ⊢; omega) hp' inv'
      · exact List.pairwise_append.2 ⟨hpw'.1, (List.pairwise_cons.1 hpw'.2.1).2, fun x hx y hy => hpw'.2.2 x hx y (List.mem_cons_of_mem _ hy)⟩
      · by_cases e : j = i
        · subst e
          constructor
          · intro h; exact absurd rfl (hni j h)
          · rintro ⟨_, h⟩; simp [hsz, hlt] at h
        · rw [getD_set_ne true (Ne.symm e), ← hl j]
          simp [e]
      · by_cases e : j = i
        · subst e; exact getD_set_true (hdone k hk)
        · rw [getD_set_ne true (Ne.symm e)] at hjl
          exact getD_set_true (hdc j k hj hjl hk)
end Go.Ab
